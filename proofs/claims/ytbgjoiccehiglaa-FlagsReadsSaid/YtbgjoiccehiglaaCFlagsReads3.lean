/- The list of flags of any bytes, of at most 500, of any length: the program's answer is the document's. -/
import Derived.Test.YtbgjoiccehiglaaRows
import Derived.WalkKit
import Derived.ProofKit
import Derived.OpenShut
import Derived.ShutString
import Derived.ChangeOld
import Derived.Below
import Derived.SizedLaws
import Derived.Test.YtbgjoiccehiglaaCFlagsReads2
section
namespace Go.Proofs.Ytbgjoiccehiglaa.Print
open Go.RowKit Go.Proofs.YtbgjoiccehiglaaW.PrintWords Go.Proofs.YtbgjoiccehiglaaW.PrintLast Go.Proofs.YtbgjoiccehiglaaW.PrintMore
attribute [local go_sem] max2_int min2_int max_two min_two max_three min_three max_four min_four
set_option linter.unusedVariables false
set_option linter.unusedSimpArgs false
def bonsairef07_Decode.l0 : Nat → Int → List Int → Int → ByteArray → Int → Int → Option (List Bool × Int)
  | 0, _, _, _, _, _, _ => none
  | k + 1, x1, x7, x8, x681000, x681001, x681002 => (bonsairef03_Reader_Left.f x681000 x681001 x681002).bind fun bt681 => (if bt681.1 > 0 then ((bonsairef03_Reader_Num.f k bt681.2.1 bt681.2.2.1 bt681.2.2.2).bind fun bt689 => (if bt689.2.2.2 = 0 then (if bt689.1 > (IntKind.u64.wrap (x8)) then (some (([] : List Bool), 5)) else (if bt689.1 = 0 then (if (x7.length : Int) > 0 then (some (([] : List Bool), 5)) else (if x7.length < 17592186044416 then (bonsairef07_Decode.l0 k x1 (x7 ++ [wrap64 (bt689.1)]) (wrap64 (x8 - (wrap64 (bt689.1)))) bt689.2.1 bt689.2.2.1 bt689.2.2.2) else (none))) else (if x7.length < 17592186044416 then (bonsairef07_Decode.l0 k x1 (x7 ++ [wrap64 (bt689.1)]) (wrap64 (x8 - (wrap64 (bt689.1)))) bt689.2.1 bt689.2.2.1 bt689.2.2.2) else (none)))) else (some (([] : List Bool), bt689.2.2.2)))) else ((bonsairef07_Spread.f k x7 x1).bind fun bt685 => (if bt685.2 = true then (if x8 > 0 then (some (([] : List Bool), 5)) else (some (bt685.1, 0))) else (some (([] : List Bool), 5)))))
def bonsairef07_Decode.f (k : Nat) (a0 : ByteArray) (a1 : Int) : Option (List Bool × Int) := if a1 < 0 then (some (([] : List Bool), 1)) else (if a1 > 4096 then (some (([] : List Bool), 10)) else (bonsairef07_Decode.l0 k a1 ([] : List Int) a1 a0 0 0))
set_option maxHeartbeats 8000000 in
set_option maxRecDepth 100000 in
theorem bonsairef07_Decode.calls (k : Nat) (a0 : ByteArray) (a1 : Int) (r1 : List Bool) (r2 : Int) (w : World) (h : bonsairef07_Decode.f k a0 a1 = some (r1, r2)) :
    Calls Try.prog 63 #[.string a0, .int .i64 a1] w fun e w' => ∃ v0_ : Value, e = .returned (.tuple #[v0_, .int .i64 r2]) ∧ Kd.R Kd.bool 4 w' w.heap.size (fun _ => True) v0_ r1 ∧ Below w.heap.size w w' := by
  have hu93 := Try.underlying93
  have HB := Aside0.mk (Below.refl w.heap.size w)
  have H : (if a1 < 0 then (some (([] : List Bool), 1)) else (if a1 > 4096 then (some (([] : List Bool), 10)) else (bonsairef07_Decode.l0 k a1 ([] : List Int) a1 a0 0 0))) = some (r1, r2) := h
  clear h
  by_cases c3 : a1 < 0
  · rw [if_pos c3] at H
    have c3b0 : decide (a1 < 0) = true := decide_eq_true c3
    clear c3
    simp only [Option.some.injEq, Prod.mk.injEq] at H
    obtain ⟨rfl, rfl⟩ := H
    go_enter Try.func63, Try.ntmps63
    go_wp2
    repeat (go_quiet (fail); try go_wp2)
    go_ret2
    exact ⟨_, by first | rfl | (simp [errW_none, errW_some] <;> rfl) | (simp [*, errW_none, errW_some] <;> rfl), by first | exact Kd.R_nil _ _ _ _ _ | exact Kd.N_nil _ _ _ _ _ | exact Kd.V_nil _ _ _ _ _ | exact Kd.Q_nil _ _ _ _ _ | exact Kd.S_nil _ _ _ _ _, by repeat (first | (with_reducible first | exact HB.out | apply below_alloc | apply pw_below_drewN | apply below_drew1) | exact HB.out)⟩
  · rw [if_neg c3] at H
    have c3b0 : decide (a1 < 0) = false := decide_eq_false c3
    clear c3
    by_cases c4 : a1 > 4096
    · rw [if_pos c4] at H
      have c4b0 : decide (4096 < a1) = true := decide_eq_true c4
      clear c4
      simp only [Option.some.injEq, Prod.mk.injEq] at H
      obtain ⟨rfl, rfl⟩ := H
      go_enter Try.func63, Try.ntmps63
      go_wp2
      repeat (go_quiet (fail); try go_wp2)
      go_ret2
      exact ⟨_, by first | rfl | (simp [errW_none, errW_some] <;> rfl) | (simp [*, errW_none, errW_some] <;> rfl), by first | exact Kd.R_nil _ _ _ _ _ | exact Kd.N_nil _ _ _ _ _ | exact Kd.V_nil _ _ _ _ _ | exact Kd.Q_nil _ _ _ _ _ | exact Kd.S_nil _ _ _ _ _, by repeat (first | (with_reducible first | exact HB.out | apply below_alloc | apply pw_below_drewN | apply below_drew1) | exact HB.out)⟩
    · rw [if_neg c4] at H
      have c4b0 : decide (4096 < a1) = false := decide_eq_false c4
      clear c4
      have H' := Aside0.mk H
      clear H
      go_enter Try.func63, Try.ntmps63
      go_wp2_with (first | ((with_reducible refine gate_dst (N := 18) rfl ?_); (try (refine gate_guard (by rfl) ?_; dsimp only)); refine box_event ?hg (N := 18) ?hd (cs := #[.string a0, .int .i64 0, .int .i64 0]) (t := 93) ?hr ?_; (case hd => rfl); (case hg => rfl); (case hr => first | (go_simp; done) | (go_simp; rfl)); intro gb680 hg w5 hbox hb; have n0_ := Aside0.mk (below_step (by repeat (first | (with_reducible first | exact HB.out | apply below_alloc | apply pw_below_drewN | apply below_drew1) | exact HB.out)) hb); have n1_ := Aside0.mk ((by rw [hg]; exact (below_size (by repeat (first | (with_reducible first | exact HB.out | apply below_alloc | apply pw_below_drewN | apply below_drew1) | exact HB.out))) : w.heap.size ≤ gb680)); have n2_ := Aside0.mk ((by rw [hg]; exact (below_size (by repeat (first | (with_reducible first | exact HB.out | apply below_alloc | apply pw_below_drewN | apply below_drew1) | exact HB.out))) : w.heap.size ≤ gb680)); have n3_ := Aside0.mk ((show IsS93 w w5 gb680 a0 0 0 from ⟨hbox, (by rw [hg]; exact (below_size (by repeat (first | (with_reducible first | exact HB.out | apply below_alloc | apply pw_below_drewN | apply below_drew1) | exact HB.out))) : w.heap.size ≤ gb680)⟩)); clear HB; have HB := n0_; have GW680 := n1_; have GE680 := n2_; have HI680 := n3_; clear n0_ n1_ n2_ n3_; clear hb hbox hg))
      repeat (go_quiet (first | ((with_reducible refine gate_dst (N := 18) rfl ?_); (try (refine gate_guard (by rfl) ?_; dsimp only)); refine box_event ?hg (N := 18) ?hd (cs := #[.string a0, .int .i64 0, .int .i64 0]) (t := 93) ?hr ?_; (case hd => rfl); (case hg => rfl); (case hr => first | (go_simp; done) | (go_simp; rfl)); intro gb680 hg w5 hbox hb; have n0_ := Aside0.mk (below_step (by repeat (first | (with_reducible first | exact HB.out | apply below_alloc | apply pw_below_drewN | apply below_drew1) | exact HB.out)) hb); have n1_ := Aside0.mk ((by rw [hg]; exact (below_size (by repeat (first | (with_reducible first | exact HB.out | apply below_alloc | apply pw_below_drewN | apply below_drew1) | exact HB.out))) : w.heap.size ≤ gb680)); have n2_ := Aside0.mk ((by rw [hg]; exact (below_size (by repeat (first | (with_reducible first | exact HB.out | apply below_alloc | apply pw_below_drewN | apply below_drew1) | exact HB.out))) : w.heap.size ≤ gb680)); have n3_ := Aside0.mk ((show IsS93 w w5 gb680 a0 0 0 from ⟨hbox, (by rw [hg]; exact (below_size (by repeat (first | (with_reducible first | exact HB.out | apply below_alloc | apply pw_below_drewN | apply below_drew1) | exact HB.out))) : w.heap.size ≤ gb680)⟩)); clear HB; have HB := n0_; have GW680 := n1_; have GE680 := n2_; have HI680 := n3_; clear n0_ n1_ n2_ n3_; clear hb hbox hg)); try go_wp2_with (first | ((with_reducible refine gate_dst (N := 18) rfl ?_); (try (refine gate_guard (by rfl) ?_; dsimp only)); refine box_event ?hg (N := 18) ?hd (cs := #[.string a0, .int .i64 0, .int .i64 0]) (t := 93) ?hr ?_; (case hd => rfl); (case hg => rfl); (case hr => first | (go_simp; done) | (go_simp; rfl)); intro gb680 hg w5 hbox hb; have n0_ := Aside0.mk (below_step (by repeat (first | (with_reducible first | exact HB.out | apply below_alloc | apply pw_below_drewN | apply below_drew1) | exact HB.out)) hb); have n1_ := Aside0.mk ((by rw [hg]; exact (below_size (by repeat (first | (with_reducible first | exact HB.out | apply below_alloc | apply pw_below_drewN | apply below_drew1) | exact HB.out))) : w.heap.size ≤ gb680)); have n2_ := Aside0.mk ((by rw [hg]; exact (below_size (by repeat (first | (with_reducible first | exact HB.out | apply below_alloc | apply pw_below_drewN | apply below_drew1) | exact HB.out))) : w.heap.size ≤ gb680)); have n3_ := Aside0.mk ((show IsS93 w w5 gb680 a0 0 0 from ⟨hbox, (by rw [hg]; exact (below_size (by repeat (first | (with_reducible first | exact HB.out | apply below_alloc | apply pw_below_drewN | apply below_drew1) | exact HB.out))) : w.heap.size ≤ gb680)⟩)); clear HB; have HB := n0_; have GW680 := n1_; have GE680 := n2_; have HI680 := n3_; clear n0_ n1_ n2_ n3_; clear hb hbox hg)))
      go_loopg [7, 8] k (fun kq v7 v8 w' => ∃ (x7_1 : List Int) (x8_1 : Int) (x681000_1 : ByteArray) (x681001_1 : Int) (x681002_1 : Int), v8 = .int .i64 x8_1 ∧ Aside0 (bonsairef07_Decode.l0 kq a1 x7_1 x8_1 x681000_1 x681001_1 x681002_1 = some (r1, r2)) ∧ Aside0 (kq ≤ k) ∧ Aside0 (Kd.R (Kd.int .i64) 3 w' w.heap.size (fun _ => True) v7 x7_1) ∧ Aside0 (IsS93 w w' gb680 x681000_1 x681001_1 x681002_1) ∧ Aside0 (Below w.heap.size w w'))
      case atStart => exact ⟨(([] : List Int)), (a1), (a0), (0), (0), (by first | rfl | (simp; done) | (simp [*]; done)), H', ⟨Nat.le_refl _⟩, ⟨by first | exact Kd.R_nil _ _ _ _ _ | exact Kd.N_nil _ _ _ _ _ | exact Kd.V_nil _ _ _ _ _ | exact Kd.Q_nil _ _ _ _ _ | exact Kd.S_nil _ _ _ _ _⟩, ⟨by repeat (first | (with_reducible first | exact HI680.out | apply IsS93.alloc | apply IsS93.drewN | apply IsS93.drew | apply IsS93.set_0 | apply IsS93.set_1 | apply IsS93.set_2) | exact HI680.out)⟩, ⟨by repeat (first | (with_reducible first | exact HB.out | apply below_alloc | apply pw_below_drewN | apply below_drew1 | refine below_set ?_ (IsS93.ge HI680.out)) | exact HB.out)⟩⟩
      case round =>
        clear H'
        try clear p2
        try clear c3
        try clear c3b0
        try clear c4
        try clear c4b0
        obtain ⟨x7_1, x8_1, x681000_1, x681001_1, x681002_1, rfl, HA, HK1, HO_7, HI680, HB⟩ := hrel
        cases gk with
        | zero => exact absurd HA.out (by simp [bonsairef07_Decode.l0])
        | succ k1 =>
          have H := HA.out
          clear HA
          simp only [bonsairef07_Decode.l0] at H
          replace H := Option.bind_eq_some_iff.mp H
          obtain ⟨⟨t681, t682, t683, t684⟩, A60, H⟩ := H
          replace H : (if t681 > 0 then ((bonsairef03_Reader_Num.f k1 t682 t683 t684).bind fun bt689 => (if bt689.2.2.2 = 0 then (if bt689.1 > (IntKind.u64.wrap (x8_1)) then (some (([] : List Bool), 5)) else (if bt689.1 = 0 then (if (x7_1.length : Int) > 0 then (some (([] : List Bool), 5)) else (if x7_1.length < 17592186044416 then (bonsairef07_Decode.l0 k1 a1 (x7_1 ++ [wrap64 (bt689.1)]) (wrap64 (x8_1 - (wrap64 (bt689.1)))) bt689.2.1 bt689.2.2.1 bt689.2.2.2) else (none))) else (if x7_1.length < 17592186044416 then (bonsairef07_Decode.l0 k1 a1 (x7_1 ++ [wrap64 (bt689.1)]) (wrap64 (x8_1 - (wrap64 (bt689.1)))) bt689.2.1 bt689.2.2.1 bt689.2.2.2) else (none)))) else (some (([] : List Bool), bt689.2.2.2)))) else ((bonsairef07_Spread.f k1 x7_1 a1).bind fun bt685 => (if bt685.2 = true then (if x8_1 > 0 then (some (([] : List Bool), 5)) else (some (bt685.1, 0))) else (some (([] : List Bool), 5))))) = some (r1, r2) := H
          have A6 := Aside0.mk A60
          clear A60
          by_cases c7 : t681 > 0
          · rw [if_pos c7] at H
            have c7b0 : decide (0 < t681) = true := decide_eq_true c7
            clear c7
            replace H := Option.bind_eq_some_iff.mp H
            obtain ⟨⟨t689, t690, t691, t692⟩, A80, H⟩ := H
            replace H : (if t692 = 0 then (if t689 > (IntKind.u64.wrap (x8_1)) then (some (([] : List Bool), 5)) else (if t689 = 0 then (if (x7_1.length : Int) > 0 then (some (([] : List Bool), 5)) else (if x7_1.length < 17592186044416 then (bonsairef07_Decode.l0 k1 a1 (x7_1 ++ [wrap64 (t689)]) (wrap64 (x8_1 - (wrap64 (t689)))) t690 t691 t692) else (none))) else (if x7_1.length < 17592186044416 then (bonsairef07_Decode.l0 k1 a1 (x7_1 ++ [wrap64 (t689)]) (wrap64 (x8_1 - (wrap64 (t689)))) t690 t691 t692) else (none)))) else (some (([] : List Bool), t692))) = some (r1, r2) := H
            have A8 := Aside0.mk A80
            clear A80
            by_cases c9 : t692 = 0
            · rw [if_pos c9] at H
              have c9b0 : (t692 == 0) = true := beq_iff_eq.mpr c9
              have c9b1 : (t692 != 0) = false := bne_eq_false_iff_eq.mpr c9
              clear c9
              by_cases c10 : t689 > (IntKind.u64.wrap (x8_1))
              · rw [if_pos c10] at H
                have c10b0 : decide ((IntKind.u64.wrap (x8_1)) < t689) = true := decide_eq_true c10
                clear c10
                simp only [Option.some.injEq, Prod.mk.injEq] at H
                obtain ⟨rfl, rfl⟩ := H
                go_wp2_with (first | (go_at_call 86; (with_reducible refine (bonsairef03_Reader_Left.calls gb680 x681000_1 x681001_1 x681002_1 t681 t682 t683 t684 w _ ?side1 ?side2 A6.out).mono ?_); (case side1 => repeat (first | (with_reducible first | exact HI680.out | apply IsS93.alloc | apply IsS93.drewN | apply IsS93.drew | apply IsS93.set_0 | apply IsS93.set_1 | apply IsS93.set_2) | exact HI680.out)); (case side2 => repeat (first | (with_reducible first | exact HB.out | apply below_alloc | apply pw_below_drewN | apply below_drew1 | refine below_set ?_ (IsS93.ge HI680.out)) | exact HB.out)); rintro e w11 ⟨rfl, hi, hb, hk⟩; have n0_ := Aside0.mk (Kd.R_mono (Kd.R_keep (IsS93.apart (show IsS93 w _ gb680 x681000_1 x681001_1 x681002_1 from by repeat (first | (with_reducible first | exact HI680.out | apply IsS93.alloc | apply IsS93.drewN | apply IsS93.drew | apply IsS93.set_0 | apply IsS93.set_1 | apply IsS93.set_2) | exact HI680.out)) (by (with_reducible repeat (first | apply Kd.R_alloc | apply Kd.R_drewN | apply Kd.R_drew)); exact HO_7.out) (by decide)) hk (fun _ h => h.2)) (fun _ h => h.1)); have n1_ := Aside0.mk (hb); have n2_ := Aside0.mk (hi); clear HO_7; clear HB; clear HI680; have HO_7 := n0_; have HB := n1_; have HI680 := n2_; clear n0_ n1_ n2_; (try clear hb); (try clear hb2); (try clear hk); (try clear hi)) | (go_at_call 85; (with_reducible refine (bonsairef03_Reader_Num.calls k1 gb680 t682 t683 t684 t689 t690 t691 t692 w _ ?side1 ?side2 A8.out).mono ?_); (case side1 => repeat (first | (with_reducible first | exact HI680.out | apply IsS93.alloc | apply IsS93.drewN | apply IsS93.drew | apply IsS93.set_0 | apply IsS93.set_1 | apply IsS93.set_2) | exact HI680.out)); (case side2 => repeat (first | (with_reducible first | exact HB.out | apply below_alloc | apply pw_below_drewN | apply below_drew1 | refine below_set ?_ (IsS93.ge HI680.out)) | exact HB.out)); rintro e w12 ⟨rfl, hi, hb, hk⟩; have n0_ := Aside0.mk (Kd.R_mono (Kd.R_keep (IsS93.apart (show IsS93 w _ gb680 t682 t683 t684 from by repeat (first | (with_reducible first | exact HI680.out | apply IsS93.alloc | apply IsS93.drewN | apply IsS93.drew | apply IsS93.set_0 | apply IsS93.set_1 | apply IsS93.set_2) | exact HI680.out)) (by (with_reducible repeat (first | apply Kd.R_alloc | apply Kd.R_drewN | apply Kd.R_drew)); exact HO_7.out) (by decide)) hk (fun _ h => h.2)) (fun _ h => h.1)); have n1_ := Aside0.mk (hb); have n2_ := Aside0.mk (hi); clear HO_7; clear HB; clear HI680; have HO_7 := n0_; have HB := n1_; have HI680 := n2_; clear n0_ n1_ n2_; (try clear hb); (try clear hb2); (try clear hk); (try clear hi); obtain ⟨HGz13, hgz13⟩ := HI680.out; have hcz13_0 := cellS93_0 HGz13; have hcz13_1 := cellS93_1 HGz13; have hcz13_2 := cellS93_2 HGz13; have hfz13_0 := blk_frozen HGz13 0; have hfz13_1 := blk_frozen HGz13 1; have hfz13_2 := blk_frozen HGz13 2; clear HGz13 hgz13))
                repeat (go_quiet (first | (go_at_call 86; (with_reducible refine (bonsairef03_Reader_Left.calls gb680 x681000_1 x681001_1 x681002_1 t681 t682 t683 t684 w _ ?side1 ?side2 A6.out).mono ?_); (case side1 => repeat (first | (with_reducible first | exact HI680.out | apply IsS93.alloc | apply IsS93.drewN | apply IsS93.drew | apply IsS93.set_0 | apply IsS93.set_1 | apply IsS93.set_2) | exact HI680.out)); (case side2 => repeat (first | (with_reducible first | exact HB.out | apply below_alloc | apply pw_below_drewN | apply below_drew1 | refine below_set ?_ (IsS93.ge HI680.out)) | exact HB.out)); rintro e w11 ⟨rfl, hi, hb, hk⟩; have n0_ := Aside0.mk (Kd.R_mono (Kd.R_keep (IsS93.apart (show IsS93 w _ gb680 x681000_1 x681001_1 x681002_1 from by repeat (first | (with_reducible first | exact HI680.out | apply IsS93.alloc | apply IsS93.drewN | apply IsS93.drew | apply IsS93.set_0 | apply IsS93.set_1 | apply IsS93.set_2) | exact HI680.out)) (by (with_reducible repeat (first | apply Kd.R_alloc | apply Kd.R_drewN | apply Kd.R_drew)); exact HO_7.out) (by decide)) hk (fun _ h => h.2)) (fun _ h => h.1)); have n1_ := Aside0.mk (hb); have n2_ := Aside0.mk (hi); clear HO_7; clear HB; clear HI680; have HO_7 := n0_; have HB := n1_; have HI680 := n2_; clear n0_ n1_ n2_; (try clear hb); (try clear hb2); (try clear hk); (try clear hi)) | (go_at_call 85; (with_reducible refine (bonsairef03_Reader_Num.calls k1 gb680 t682 t683 t684 t689 t690 t691 t692 w _ ?side1 ?side2 A8.out).mono ?_); (case side1 => repeat (first | (with_reducible first | exact HI680.out | apply IsS93.alloc | apply IsS93.drewN | apply IsS93.drew | apply IsS93.set_0 | apply IsS93.set_1 | apply IsS93.set_2) | exact HI680.out)); (case side2 => repeat (first | (with_reducible first | exact HB.out | apply below_alloc | apply pw_below_drewN | apply below_drew1 | refine below_set ?_ (IsS93.ge HI680.out)) | exact HB.out)); rintro e w12 ⟨rfl, hi, hb, hk⟩; have n0_ := Aside0.mk (Kd.R_mono (Kd.R_keep (IsS93.apart (show IsS93 w _ gb680 t682 t683 t684 from by repeat (first | (with_reducible first | exact HI680.out | apply IsS93.alloc | apply IsS93.drewN | apply IsS93.drew | apply IsS93.set_0 | apply IsS93.set_1 | apply IsS93.set_2) | exact HI680.out)) (by (with_reducible repeat (first | apply Kd.R_alloc | apply Kd.R_drewN | apply Kd.R_drew)); exact HO_7.out) (by decide)) hk (fun _ h => h.2)) (fun _ h => h.1)); have n1_ := Aside0.mk (hb); have n2_ := Aside0.mk (hi); clear HO_7; clear HB; clear HI680; have HO_7 := n0_; have HB := n1_; have HI680 := n2_; clear n0_ n1_ n2_; (try clear hb); (try clear hb2); (try clear hk); (try clear hi); obtain ⟨HGz13, hgz13⟩ := HI680.out; have hcz13_0 := cellS93_0 HGz13; have hcz13_1 := cellS93_1 HGz13; have hcz13_2 := cellS93_2 HGz13; have hfz13_0 := blk_frozen HGz13 0; have hfz13_1 := blk_frozen HGz13 1; have hfz13_2 := blk_frozen HGz13 2; clear HGz13 hgz13)); try go_wp2_with (first | (go_at_call 86; (with_reducible refine (bonsairef03_Reader_Left.calls gb680 x681000_1 x681001_1 x681002_1 t681 t682 t683 t684 w _ ?side1 ?side2 A6.out).mono ?_); (case side1 => repeat (first | (with_reducible first | exact HI680.out | apply IsS93.alloc | apply IsS93.drewN | apply IsS93.drew | apply IsS93.set_0 | apply IsS93.set_1 | apply IsS93.set_2) | exact HI680.out)); (case side2 => repeat (first | (with_reducible first | exact HB.out | apply below_alloc | apply pw_below_drewN | apply below_drew1 | refine below_set ?_ (IsS93.ge HI680.out)) | exact HB.out)); rintro e w11 ⟨rfl, hi, hb, hk⟩; have n0_ := Aside0.mk (Kd.R_mono (Kd.R_keep (IsS93.apart (show IsS93 w _ gb680 x681000_1 x681001_1 x681002_1 from by repeat (first | (with_reducible first | exact HI680.out | apply IsS93.alloc | apply IsS93.drewN | apply IsS93.drew | apply IsS93.set_0 | apply IsS93.set_1 | apply IsS93.set_2) | exact HI680.out)) (by (with_reducible repeat (first | apply Kd.R_alloc | apply Kd.R_drewN | apply Kd.R_drew)); exact HO_7.out) (by decide)) hk (fun _ h => h.2)) (fun _ h => h.1)); have n1_ := Aside0.mk (hb); have n2_ := Aside0.mk (hi); clear HO_7; clear HB; clear HI680; have HO_7 := n0_; have HB := n1_; have HI680 := n2_; clear n0_ n1_ n2_; (try clear hb); (try clear hb2); (try clear hk); (try clear hi)) | (go_at_call 85; (with_reducible refine (bonsairef03_Reader_Num.calls k1 gb680 t682 t683 t684 t689 t690 t691 t692 w _ ?side1 ?side2 A8.out).mono ?_); (case side1 => repeat (first | (with_reducible first | exact HI680.out | apply IsS93.alloc | apply IsS93.drewN | apply IsS93.drew | apply IsS93.set_0 | apply IsS93.set_1 | apply IsS93.set_2) | exact HI680.out)); (case side2 => repeat (first | (with_reducible first | exact HB.out | apply below_alloc | apply pw_below_drewN | apply below_drew1 | refine below_set ?_ (IsS93.ge HI680.out)) | exact HB.out)); rintro e w12 ⟨rfl, hi, hb, hk⟩; have n0_ := Aside0.mk (Kd.R_mono (Kd.R_keep (IsS93.apart (show IsS93 w _ gb680 t682 t683 t684 from by repeat (first | (with_reducible first | exact HI680.out | apply IsS93.alloc | apply IsS93.drewN | apply IsS93.drew | apply IsS93.set_0 | apply IsS93.set_1 | apply IsS93.set_2) | exact HI680.out)) (by (with_reducible repeat (first | apply Kd.R_alloc | apply Kd.R_drewN | apply Kd.R_drew)); exact HO_7.out) (by decide)) hk (fun _ h => h.2)) (fun _ h => h.1)); have n1_ := Aside0.mk (hb); have n2_ := Aside0.mk (hi); clear HO_7; clear HB; clear HI680; have HO_7 := n0_; have HB := n1_; have HI680 := n2_; clear n0_ n1_ n2_; (try clear hb); (try clear hb2); (try clear hk); (try clear hi); obtain ⟨HGz13, hgz13⟩ := HI680.out; have hcz13_0 := cellS93_0 HGz13; have hcz13_1 := cellS93_1 HGz13; have hcz13_2 := cellS93_2 HGz13; have hfz13_0 := blk_frozen HGz13 0; have hfz13_1 := blk_frozen HGz13 1; have hfz13_2 := blk_frozen HGz13 2; clear HGz13 hgz13)))
                go_ret2
                exact ⟨_, by first | rfl | (simp [errW_none, errW_some] <;> rfl) | (simp [*, errW_none, errW_some] <;> rfl), by first | exact Kd.R_nil _ _ _ _ _ | exact Kd.N_nil _ _ _ _ _ | exact Kd.V_nil _ _ _ _ _ | exact Kd.Q_nil _ _ _ _ _ | exact Kd.S_nil _ _ _ _ _, by repeat (first | (with_reducible first | exact HB.out | apply below_alloc | apply pw_below_drewN | apply below_drew1 | refine below_set ?_ (IsS93.ge HI680.out)) | exact HB.out)⟩
              · rw [if_neg c10] at H
                have c10b0 : decide ((IntKind.u64.wrap (x8_1)) < t689) = false := decide_eq_false c10
                clear c10
                by_cases c14 : t689 = 0
                · rw [if_pos c14] at H
                  have c14b0 : (t689 == 0) = true := beq_iff_eq.mpr c14
                  have c14b1 : (t689 != 0) = false := bne_eq_false_iff_eq.mpr c14
                  clear c14
                  by_cases c15 : (x7_1.length : Int) > 0
                  · rw [if_pos c15] at H
                    have c15b0 : decide (0 < (x7_1.length : Int)) = true := decide_eq_true c15
                    have c15b1 : decide (0 < x7_1.length) = true := decide_eq_true (by omega)
                    clear c15
                    simp only [Option.some.injEq, Prod.mk.injEq] at H
                    obtain ⟨rfl, rfl⟩ := H
                    go_wp2_with (first | (go_at_call 86; (with_reducible refine (bonsairef03_Reader_Left.calls gb680 x681000_1 x681001_1 x681002_1 t681 t682 t683 t684 w _ ?side1 ?side2 A6.out).mono ?_); (case side1 => repeat (first | (with_reducible first | exact HI680.out | apply IsS93.alloc | apply IsS93.drewN | apply IsS93.drew | apply IsS93.set_0 | apply IsS93.set_1 | apply IsS93.set_2) | exact HI680.out)); (case side2 => repeat (first | (with_reducible first | exact HB.out | apply below_alloc | apply pw_below_drewN | apply below_drew1 | refine below_set ?_ (IsS93.ge HI680.out)) | exact HB.out)); rintro e w16 ⟨rfl, hi, hb, hk⟩; have n0_ := Aside0.mk (Kd.R_mono (Kd.R_keep (IsS93.apart (show IsS93 w _ gb680 x681000_1 x681001_1 x681002_1 from by repeat (first | (with_reducible first | exact HI680.out | apply IsS93.alloc | apply IsS93.drewN | apply IsS93.drew | apply IsS93.set_0 | apply IsS93.set_1 | apply IsS93.set_2) | exact HI680.out)) (by (with_reducible repeat (first | apply Kd.R_alloc | apply Kd.R_drewN | apply Kd.R_drew)); exact HO_7.out) (by decide)) hk (fun _ h => h.2)) (fun _ h => h.1)); have n1_ := Aside0.mk (hb); have n2_ := Aside0.mk (hi); clear HO_7; clear HB; clear HI680; have HO_7 := n0_; have HB := n1_; have HI680 := n2_; clear n0_ n1_ n2_; (try clear hb); (try clear hb2); (try clear hk); (try clear hi)) | (go_at_call 85; (with_reducible refine (bonsairef03_Reader_Num.calls k1 gb680 t682 t683 t684 t689 t690 t691 t692 w _ ?side1 ?side2 A8.out).mono ?_); (case side1 => repeat (first | (with_reducible first | exact HI680.out | apply IsS93.alloc | apply IsS93.drewN | apply IsS93.drew | apply IsS93.set_0 | apply IsS93.set_1 | apply IsS93.set_2) | exact HI680.out)); (case side2 => repeat (first | (with_reducible first | exact HB.out | apply below_alloc | apply pw_below_drewN | apply below_drew1 | refine below_set ?_ (IsS93.ge HI680.out)) | exact HB.out)); rintro e w17 ⟨rfl, hi, hb, hk⟩; have n0_ := Aside0.mk (Kd.R_mono (Kd.R_keep (IsS93.apart (show IsS93 w _ gb680 t682 t683 t684 from by repeat (first | (with_reducible first | exact HI680.out | apply IsS93.alloc | apply IsS93.drewN | apply IsS93.drew | apply IsS93.set_0 | apply IsS93.set_1 | apply IsS93.set_2) | exact HI680.out)) (by (with_reducible repeat (first | apply Kd.R_alloc | apply Kd.R_drewN | apply Kd.R_drew)); exact HO_7.out) (by decide)) hk (fun _ h => h.2)) (fun _ h => h.1)); have n1_ := Aside0.mk (hb); have n2_ := Aside0.mk (hi); clear HO_7; clear HB; clear HI680; have HO_7 := n0_; have HB := n1_; have HI680 := n2_; clear n0_ n1_ n2_; (try clear hb); (try clear hb2); (try clear hk); (try clear hi); obtain ⟨HGz18, hgz18⟩ := HI680.out; have hcz18_0 := cellS93_0 HGz18; have hcz18_1 := cellS93_1 HGz18; have hcz18_2 := cellS93_2 HGz18; have hfz18_0 := blk_frozen HGz18 0; have hfz18_1 := blk_frozen HGz18 1; have hfz18_2 := blk_frozen HGz18 2; clear HGz18 hgz18; obtain ⟨Ao19, co19, eo19⟩ := Kd.R_slice HO_7.out; subst eo19))
                    repeat (go_quiet (first | (go_at_call 86; (with_reducible refine (bonsairef03_Reader_Left.calls gb680 x681000_1 x681001_1 x681002_1 t681 t682 t683 t684 w _ ?side1 ?side2 A6.out).mono ?_); (case side1 => repeat (first | (with_reducible first | exact HI680.out | apply IsS93.alloc | apply IsS93.drewN | apply IsS93.drew | apply IsS93.set_0 | apply IsS93.set_1 | apply IsS93.set_2) | exact HI680.out)); (case side2 => repeat (first | (with_reducible first | exact HB.out | apply below_alloc | apply pw_below_drewN | apply below_drew1 | refine below_set ?_ (IsS93.ge HI680.out)) | exact HB.out)); rintro e w16 ⟨rfl, hi, hb, hk⟩; have n0_ := Aside0.mk (Kd.R_mono (Kd.R_keep (IsS93.apart (show IsS93 w _ gb680 x681000_1 x681001_1 x681002_1 from by repeat (first | (with_reducible first | exact HI680.out | apply IsS93.alloc | apply IsS93.drewN | apply IsS93.drew | apply IsS93.set_0 | apply IsS93.set_1 | apply IsS93.set_2) | exact HI680.out)) (by (with_reducible repeat (first | apply Kd.R_alloc | apply Kd.R_drewN | apply Kd.R_drew)); exact HO_7.out) (by decide)) hk (fun _ h => h.2)) (fun _ h => h.1)); have n1_ := Aside0.mk (hb); have n2_ := Aside0.mk (hi); clear HO_7; clear HB; clear HI680; have HO_7 := n0_; have HB := n1_; have HI680 := n2_; clear n0_ n1_ n2_; (try clear hb); (try clear hb2); (try clear hk); (try clear hi)) | (go_at_call 85; (with_reducible refine (bonsairef03_Reader_Num.calls k1 gb680 t682 t683 t684 t689 t690 t691 t692 w _ ?side1 ?side2 A8.out).mono ?_); (case side1 => repeat (first | (with_reducible first | exact HI680.out | apply IsS93.alloc | apply IsS93.drewN | apply IsS93.drew | apply IsS93.set_0 | apply IsS93.set_1 | apply IsS93.set_2) | exact HI680.out)); (case side2 => repeat (first | (with_reducible first | exact HB.out | apply below_alloc | apply pw_below_drewN | apply below_drew1 | refine below_set ?_ (IsS93.ge HI680.out)) | exact HB.out)); rintro e w17 ⟨rfl, hi, hb, hk⟩; have n0_ := Aside0.mk (Kd.R_mono (Kd.R_keep (IsS93.apart (show IsS93 w _ gb680 t682 t683 t684 from by repeat (first | (with_reducible first | exact HI680.out | apply IsS93.alloc | apply IsS93.drewN | apply IsS93.drew | apply IsS93.set_0 | apply IsS93.set_1 | apply IsS93.set_2) | exact HI680.out)) (by (with_reducible repeat (first | apply Kd.R_alloc | apply Kd.R_drewN | apply Kd.R_drew)); exact HO_7.out) (by decide)) hk (fun _ h => h.2)) (fun _ h => h.1)); have n1_ := Aside0.mk (hb); have n2_ := Aside0.mk (hi); clear HO_7; clear HB; clear HI680; have HO_7 := n0_; have HB := n1_; have HI680 := n2_; clear n0_ n1_ n2_; (try clear hb); (try clear hb2); (try clear hk); (try clear hi); obtain ⟨HGz18, hgz18⟩ := HI680.out; have hcz18_0 := cellS93_0 HGz18; have hcz18_1 := cellS93_1 HGz18; have hcz18_2 := cellS93_2 HGz18; have hfz18_0 := blk_frozen HGz18 0; have hfz18_1 := blk_frozen HGz18 1; have hfz18_2 := blk_frozen HGz18 2; clear HGz18 hgz18; obtain ⟨Ao19, co19, eo19⟩ := Kd.R_slice HO_7.out; subst eo19)); try go_wp2_with (first | (go_at_call 86; (with_reducible refine (bonsairef03_Reader_Left.calls gb680 x681000_1 x681001_1 x681002_1 t681 t682 t683 t684 w _ ?side1 ?side2 A6.out).mono ?_); (case side1 => repeat (first | (with_reducible first | exact HI680.out | apply IsS93.alloc | apply IsS93.drewN | apply IsS93.drew | apply IsS93.set_0 | apply IsS93.set_1 | apply IsS93.set_2) | exact HI680.out)); (case side2 => repeat (first | (with_reducible first | exact HB.out | apply below_alloc | apply pw_below_drewN | apply below_drew1 | refine below_set ?_ (IsS93.ge HI680.out)) | exact HB.out)); rintro e w16 ⟨rfl, hi, hb, hk⟩; have n0_ := Aside0.mk (Kd.R_mono (Kd.R_keep (IsS93.apart (show IsS93 w _ gb680 x681000_1 x681001_1 x681002_1 from by repeat (first | (with_reducible first | exact HI680.out | apply IsS93.alloc | apply IsS93.drewN | apply IsS93.drew | apply IsS93.set_0 | apply IsS93.set_1 | apply IsS93.set_2) | exact HI680.out)) (by (with_reducible repeat (first | apply Kd.R_alloc | apply Kd.R_drewN | apply Kd.R_drew)); exact HO_7.out) (by decide)) hk (fun _ h => h.2)) (fun _ h => h.1)); have n1_ := Aside0.mk (hb); have n2_ := Aside0.mk (hi); clear HO_7; clear HB; clear HI680; have HO_7 := n0_; have HB := n1_; have HI680 := n2_; clear n0_ n1_ n2_; (try clear hb); (try clear hb2); (try clear hk); (try clear hi)) | (go_at_call 85; (with_reducible refine (bonsairef03_Reader_Num.calls k1 gb680 t682 t683 t684 t689 t690 t691 t692 w _ ?side1 ?side2 A8.out).mono ?_); (case side1 => repeat (first | (with_reducible first | exact HI680.out | apply IsS93.alloc | apply IsS93.drewN | apply IsS93.drew | apply IsS93.set_0 | apply IsS93.set_1 | apply IsS93.set_2) | exact HI680.out)); (case side2 => repeat (first | (with_reducible first | exact HB.out | apply below_alloc | apply pw_below_drewN | apply below_drew1 | refine below_set ?_ (IsS93.ge HI680.out)) | exact HB.out)); rintro e w17 ⟨rfl, hi, hb, hk⟩; have n0_ := Aside0.mk (Kd.R_mono (Kd.R_keep (IsS93.apart (show IsS93 w _ gb680 t682 t683 t684 from by repeat (first | (with_reducible first | exact HI680.out | apply IsS93.alloc | apply IsS93.drewN | apply IsS93.drew | apply IsS93.set_0 | apply IsS93.set_1 | apply IsS93.set_2) | exact HI680.out)) (by (with_reducible repeat (first | apply Kd.R_alloc | apply Kd.R_drewN | apply Kd.R_drew)); exact HO_7.out) (by decide)) hk (fun _ h => h.2)) (fun _ h => h.1)); have n1_ := Aside0.mk (hb); have n2_ := Aside0.mk (hi); clear HO_7; clear HB; clear HI680; have HO_7 := n0_; have HB := n1_; have HI680 := n2_; clear n0_ n1_ n2_; (try clear hb); (try clear hb2); (try clear hk); (try clear hi); obtain ⟨HGz18, hgz18⟩ := HI680.out; have hcz18_0 := cellS93_0 HGz18; have hcz18_1 := cellS93_1 HGz18; have hcz18_2 := cellS93_2 HGz18; have hfz18_0 := blk_frozen HGz18 0; have hfz18_1 := blk_frozen HGz18 1; have hfz18_2 := blk_frozen HGz18 2; clear HGz18 hgz18; obtain ⟨Ao19, co19, eo19⟩ := Kd.R_slice HO_7.out; subst eo19)))
                    go_ret2
                    exact ⟨_, by first | rfl | (simp [errW_none, errW_some] <;> rfl) | (simp [*, errW_none, errW_some] <;> rfl), by first | exact Kd.R_nil _ _ _ _ _ | exact Kd.N_nil _ _ _ _ _ | exact Kd.V_nil _ _ _ _ _ | exact Kd.Q_nil _ _ _ _ _ | exact Kd.S_nil _ _ _ _ _, by repeat (first | (with_reducible first | exact HB.out | apply below_alloc | apply pw_below_drewN | apply below_drew1 | refine below_set ?_ (IsS93.ge HI680.out)) | exact HB.out)⟩
                  · rw [if_neg c15] at H
                    have c15b0 : decide (0 < (x7_1.length : Int)) = false := decide_eq_false c15
                    have c15b1 : decide (0 < x7_1.length) = false := decide_eq_false (by omega)
                    clear c15
                    by_cases c20 : x7_1.length < 17592186044416
                    · rw [if_pos c20] at H
                      have LMc20 := Aside0.mk c20
                      clear c20
                      obtain ⟨y693, hy693⟩ : ∃ y_ : List Int, y_ = (x7_1 ++ [wrap64 (t689)]) := ⟨_, rfl⟩
                      replace H : (bonsairef07_Decode.l0 k1 a1 y693 (wrap64 (x8_1 - (wrap64 (t689)))) t690 t691 t692) = some (r1, r2) := by first | (rw [hy693]; with_reducible exact H) | (have H2_ := (Option.bind_some _ _).symm.trans H; rw [hy693]; with_reducible exact H2_) | (have H2_ := (Option.bind_some _ _).symm.trans H; with_reducible exact H2_) | with_reducible exact H | (rw [hy693]; exact H) | exact H
                      have Ny693 := Aside0.mk hy693
                      clear hy693
                      have H' := Aside0.mk H
                      clear H
                      go_wp2_with (first | (go_at_call 86; (with_reducible refine (bonsairef03_Reader_Left.calls gb680 x681000_1 x681001_1 x681002_1 t681 t682 t683 t684 w _ ?side1 ?side2 A6.out).mono ?_); (case side1 => repeat (first | (with_reducible first | exact HI680.out | apply IsS93.alloc | apply IsS93.drewN | apply IsS93.drew | apply IsS93.set_0 | apply IsS93.set_1 | apply IsS93.set_2) | exact HI680.out)); (case side2 => repeat (first | (with_reducible first | exact HB.out | apply below_alloc | apply pw_below_drewN | apply below_drew1 | refine below_set ?_ (IsS93.ge HI680.out)) | exact HB.out)); rintro e w21 ⟨rfl, hi, hb, hk⟩; have n0_ := Aside0.mk (Kd.R_mono (Kd.R_keep (IsS93.apart (show IsS93 w _ gb680 x681000_1 x681001_1 x681002_1 from by repeat (first | (with_reducible first | exact HI680.out | apply IsS93.alloc | apply IsS93.drewN | apply IsS93.drew | apply IsS93.set_0 | apply IsS93.set_1 | apply IsS93.set_2) | exact HI680.out)) (by (with_reducible repeat (first | apply Kd.R_alloc | apply Kd.R_drewN | apply Kd.R_drew)); exact HO_7.out) (by decide)) hk (fun _ h => h.2)) (fun _ h => h.1)); have n1_ := Aside0.mk (hb); have n2_ := Aside0.mk (hi); clear HO_7; clear HB; clear HI680; have HO_7 := n0_; have HB := n1_; have HI680 := n2_; clear n0_ n1_ n2_; (try clear hb); (try clear hb2); (try clear hk); (try clear hi)) | (go_at_call 85; (with_reducible refine (bonsairef03_Reader_Num.calls k1 gb680 t682 t683 t684 t689 t690 t691 t692 w _ ?side1 ?side2 A8.out).mono ?_); (case side1 => repeat (first | (with_reducible first | exact HI680.out | apply IsS93.alloc | apply IsS93.drewN | apply IsS93.drew | apply IsS93.set_0 | apply IsS93.set_1 | apply IsS93.set_2) | exact HI680.out)); (case side2 => repeat (first | (with_reducible first | exact HB.out | apply below_alloc | apply pw_below_drewN | apply below_drew1 | refine below_set ?_ (IsS93.ge HI680.out)) | exact HB.out)); rintro e w22 ⟨rfl, hi, hb, hk⟩; have n0_ := Aside0.mk (Kd.R_mono (Kd.R_keep (IsS93.apart (show IsS93 w _ gb680 t682 t683 t684 from by repeat (first | (with_reducible first | exact HI680.out | apply IsS93.alloc | apply IsS93.drewN | apply IsS93.drew | apply IsS93.set_0 | apply IsS93.set_1 | apply IsS93.set_2) | exact HI680.out)) (by (with_reducible repeat (first | apply Kd.R_alloc | apply Kd.R_drewN | apply Kd.R_drew)); exact HO_7.out) (by decide)) hk (fun _ h => h.2)) (fun _ h => h.1)); have n1_ := Aside0.mk (hb); have n2_ := Aside0.mk (hi); clear HO_7; clear HB; clear HI680; have HO_7 := n0_; have HB := n1_; have HI680 := n2_; clear n0_ n1_ n2_; (try clear hb); (try clear hb2); (try clear hk); (try clear hi); obtain ⟨HGz23, hgz23⟩ := HI680.out; have hcz23_0 := cellS93_0 HGz23; have hcz23_1 := cellS93_1 HGz23; have hcz23_2 := cellS93_2 HGz23; have hfz23_0 := blk_frozen HGz23 0; have hfz23_1 := blk_frozen HGz23 1; have hfz23_2 := blk_frozen HGz23 2; clear HGz23 hgz23; obtain ⟨Ao24, co24, eo24⟩ := Kd.R_slice HO_7.out; subst eo24) | ((with_reducible refine gate_builtin (b := .append) (xs := #[.tmp 51, .tmp 54]) rfl ?_); (try (refine gate_guard (by rfl) ?_; dsimp only)); at_builtin; refine Kd.R_append (Kd.int .i64) (w0 := w) w.heap.size rfl (.tmp 51) (.tmp 54) 56 3 (.int .i64 0) 8 rfl Try.underlying56 info3 rfl (by decide) (by omega) (.slice Ao24 x7_1.length co24) x7_1 (wrap64 (t689)) [.int .i64 (wrap64 (t689))] (fun _ => True) (fun _ => False) rfl rfl ?aP (fun _ hk => hk.elim) ?aF ?aO ?aB ?aS ?aL ?_; (case aP => exact rfl); (case aB => exact (by repeat (first | (with_reducible first | exact HB.out | apply below_alloc | apply pw_below_drewN | apply below_drew1 | refine below_set ?_ (IsS93.ge HI680.out)) | exact HB.out))); (case aF => exact (fun _ _ => trivial)); (case aO => exact (by (with_reducible repeat (first | apply Kd.R_alloc | apply Kd.R_drewN | apply Kd.R_drew)); exact HO_7.out)); (case aS => exact (below_size (by repeat (first | (with_reducible first | exact HB.out | apply below_alloc | apply pw_below_drewN | apply below_drew1 | refine below_set ?_ (IsS93.ge HI680.out)) | exact HB.out)))); (case aL => have := LMc20.out; omega); intro v694 w25 ho hb hg hat; rw [← Ny693.out] at ho; have n0_ := Aside0.mk (IsS93.grown (by repeat (first | (with_reducible first | exact HI680.out | apply IsS93.alloc | apply IsS93.drewN | apply IsS93.drew | apply IsS93.set_0 | apply IsS93.set_1 | apply IsS93.set_2) | exact HI680.out)) hg (IsS93.own_ne HI680.out HO_7.out (by decide))); have n1_ := Aside0.mk (hb); have n2_ := Aside0.mk (ho); clear HI680; clear HB; clear HO_7; have HI680 := n0_; have HB := n1_; have HO695 := n2_; clear n0_ n1_ n2_; clear ho hb hg hat))
                      repeat (go_quiet (first | (go_at_call 86; (with_reducible refine (bonsairef03_Reader_Left.calls gb680 x681000_1 x681001_1 x681002_1 t681 t682 t683 t684 w _ ?side1 ?side2 A6.out).mono ?_); (case side1 => repeat (first | (with_reducible first | exact HI680.out | apply IsS93.alloc | apply IsS93.drewN | apply IsS93.drew | apply IsS93.set_0 | apply IsS93.set_1 | apply IsS93.set_2) | exact HI680.out)); (case side2 => repeat (first | (with_reducible first | exact HB.out | apply below_alloc | apply pw_below_drewN | apply below_drew1 | refine below_set ?_ (IsS93.ge HI680.out)) | exact HB.out)); rintro e w21 ⟨rfl, hi, hb, hk⟩; have n0_ := Aside0.mk (Kd.R_mono (Kd.R_keep (IsS93.apart (show IsS93 w _ gb680 x681000_1 x681001_1 x681002_1 from by repeat (first | (with_reducible first | exact HI680.out | apply IsS93.alloc | apply IsS93.drewN | apply IsS93.drew | apply IsS93.set_0 | apply IsS93.set_1 | apply IsS93.set_2) | exact HI680.out)) (by (with_reducible repeat (first | apply Kd.R_alloc | apply Kd.R_drewN | apply Kd.R_drew)); exact HO_7.out) (by decide)) hk (fun _ h => h.2)) (fun _ h => h.1)); have n1_ := Aside0.mk (hb); have n2_ := Aside0.mk (hi); clear HO_7; clear HB; clear HI680; have HO_7 := n0_; have HB := n1_; have HI680 := n2_; clear n0_ n1_ n2_; (try clear hb); (try clear hb2); (try clear hk); (try clear hi)) | (go_at_call 85; (with_reducible refine (bonsairef03_Reader_Num.calls k1 gb680 t682 t683 t684 t689 t690 t691 t692 w _ ?side1 ?side2 A8.out).mono ?_); (case side1 => repeat (first | (with_reducible first | exact HI680.out | apply IsS93.alloc | apply IsS93.drewN | apply IsS93.drew | apply IsS93.set_0 | apply IsS93.set_1 | apply IsS93.set_2) | exact HI680.out)); (case side2 => repeat (first | (with_reducible first | exact HB.out | apply below_alloc | apply pw_below_drewN | apply below_drew1 | refine below_set ?_ (IsS93.ge HI680.out)) | exact HB.out)); rintro e w22 ⟨rfl, hi, hb, hk⟩; have n0_ := Aside0.mk (Kd.R_mono (Kd.R_keep (IsS93.apart (show IsS93 w _ gb680 t682 t683 t684 from by repeat (first | (with_reducible first | exact HI680.out | apply IsS93.alloc | apply IsS93.drewN | apply IsS93.drew | apply IsS93.set_0 | apply IsS93.set_1 | apply IsS93.set_2) | exact HI680.out)) (by (with_reducible repeat (first | apply Kd.R_alloc | apply Kd.R_drewN | apply Kd.R_drew)); exact HO_7.out) (by decide)) hk (fun _ h => h.2)) (fun _ h => h.1)); have n1_ := Aside0.mk (hb); have n2_ := Aside0.mk (hi); clear HO_7; clear HB; clear HI680; have HO_7 := n0_; have HB := n1_; have HI680 := n2_; clear n0_ n1_ n2_; (try clear hb); (try clear hb2); (try clear hk); (try clear hi); obtain ⟨HGz23, hgz23⟩ := HI680.out; have hcz23_0 := cellS93_0 HGz23; have hcz23_1 := cellS93_1 HGz23; have hcz23_2 := cellS93_2 HGz23; have hfz23_0 := blk_frozen HGz23 0; have hfz23_1 := blk_frozen HGz23 1; have hfz23_2 := blk_frozen HGz23 2; clear HGz23 hgz23; obtain ⟨Ao24, co24, eo24⟩ := Kd.R_slice HO_7.out; subst eo24) | ((with_reducible refine gate_builtin (b := .append) (xs := #[.tmp 51, .tmp 54]) rfl ?_); (try (refine gate_guard (by rfl) ?_; dsimp only)); at_builtin; refine Kd.R_append (Kd.int .i64) (w0 := w) w.heap.size rfl (.tmp 51) (.tmp 54) 56 3 (.int .i64 0) 8 rfl Try.underlying56 info3 rfl (by decide) (by omega) (.slice Ao24 x7_1.length co24) x7_1 (wrap64 (t689)) [.int .i64 (wrap64 (t689))] (fun _ => True) (fun _ => False) rfl rfl ?aP (fun _ hk => hk.elim) ?aF ?aO ?aB ?aS ?aL ?_; (case aP => exact rfl); (case aB => exact (by repeat (first | (with_reducible first | exact HB.out | apply below_alloc | apply pw_below_drewN | apply below_drew1 | refine below_set ?_ (IsS93.ge HI680.out)) | exact HB.out))); (case aF => exact (fun _ _ => trivial)); (case aO => exact (by (with_reducible repeat (first | apply Kd.R_alloc | apply Kd.R_drewN | apply Kd.R_drew)); exact HO_7.out)); (case aS => exact (below_size (by repeat (first | (with_reducible first | exact HB.out | apply below_alloc | apply pw_below_drewN | apply below_drew1 | refine below_set ?_ (IsS93.ge HI680.out)) | exact HB.out)))); (case aL => have := LMc20.out; omega); intro v694 w25 ho hb hg hat; rw [← Ny693.out] at ho; have n0_ := Aside0.mk (IsS93.grown (by repeat (first | (with_reducible first | exact HI680.out | apply IsS93.alloc | apply IsS93.drewN | apply IsS93.drew | apply IsS93.set_0 | apply IsS93.set_1 | apply IsS93.set_2) | exact HI680.out)) hg (IsS93.own_ne HI680.out HO_7.out (by decide))); have n1_ := Aside0.mk (hb); have n2_ := Aside0.mk (ho); clear HI680; clear HB; clear HO_7; have HI680 := n0_; have HB := n1_; have HO695 := n2_; clear n0_ n1_ n2_; clear ho hb hg hat)); try go_wp2_with (first | (go_at_call 86; (with_reducible refine (bonsairef03_Reader_Left.calls gb680 x681000_1 x681001_1 x681002_1 t681 t682 t683 t684 w _ ?side1 ?side2 A6.out).mono ?_); (case side1 => repeat (first | (with_reducible first | exact HI680.out | apply IsS93.alloc | apply IsS93.drewN | apply IsS93.drew | apply IsS93.set_0 | apply IsS93.set_1 | apply IsS93.set_2) | exact HI680.out)); (case side2 => repeat (first | (with_reducible first | exact HB.out | apply below_alloc | apply pw_below_drewN | apply below_drew1 | refine below_set ?_ (IsS93.ge HI680.out)) | exact HB.out)); rintro e w21 ⟨rfl, hi, hb, hk⟩; have n0_ := Aside0.mk (Kd.R_mono (Kd.R_keep (IsS93.apart (show IsS93 w _ gb680 x681000_1 x681001_1 x681002_1 from by repeat (first | (with_reducible first | exact HI680.out | apply IsS93.alloc | apply IsS93.drewN | apply IsS93.drew | apply IsS93.set_0 | apply IsS93.set_1 | apply IsS93.set_2) | exact HI680.out)) (by (with_reducible repeat (first | apply Kd.R_alloc | apply Kd.R_drewN | apply Kd.R_drew)); exact HO_7.out) (by decide)) hk (fun _ h => h.2)) (fun _ h => h.1)); have n1_ := Aside0.mk (hb); have n2_ := Aside0.mk (hi); clear HO_7; clear HB; clear HI680; have HO_7 := n0_; have HB := n1_; have HI680 := n2_; clear n0_ n1_ n2_; (try clear hb); (try clear hb2); (try clear hk); (try clear hi)) | (go_at_call 85; (with_reducible refine (bonsairef03_Reader_Num.calls k1 gb680 t682 t683 t684 t689 t690 t691 t692 w _ ?side1 ?side2 A8.out).mono ?_); (case side1 => repeat (first | (with_reducible first | exact HI680.out | apply IsS93.alloc | apply IsS93.drewN | apply IsS93.drew | apply IsS93.set_0 | apply IsS93.set_1 | apply IsS93.set_2) | exact HI680.out)); (case side2 => repeat (first | (with_reducible first | exact HB.out | apply below_alloc | apply pw_below_drewN | apply below_drew1 | refine below_set ?_ (IsS93.ge HI680.out)) | exact HB.out)); rintro e w22 ⟨rfl, hi, hb, hk⟩; have n0_ := Aside0.mk (Kd.R_mono (Kd.R_keep (IsS93.apart (show IsS93 w _ gb680 t682 t683 t684 from by repeat (first | (with_reducible first | exact HI680.out | apply IsS93.alloc | apply IsS93.drewN | apply IsS93.drew | apply IsS93.set_0 | apply IsS93.set_1 | apply IsS93.set_2) | exact HI680.out)) (by (with_reducible repeat (first | apply Kd.R_alloc | apply Kd.R_drewN | apply Kd.R_drew)); exact HO_7.out) (by decide)) hk (fun _ h => h.2)) (fun _ h => h.1)); have n1_ := Aside0.mk (hb); have n2_ := Aside0.mk (hi); clear HO_7; clear HB; clear HI680; have HO_7 := n0_; have HB := n1_; have HI680 := n2_; clear n0_ n1_ n2_; (try clear hb); (try clear hb2); (try clear hk); (try clear hi); obtain ⟨HGz23, hgz23⟩ := HI680.out; have hcz23_0 := cellS93_0 HGz23; have hcz23_1 := cellS93_1 HGz23; have hcz23_2 := cellS93_2 HGz23; have hfz23_0 := blk_frozen HGz23 0; have hfz23_1 := blk_frozen HGz23 1; have hfz23_2 := blk_frozen HGz23 2; clear HGz23 hgz23; obtain ⟨Ao24, co24, eo24⟩ := Kd.R_slice HO_7.out; subst eo24) | ((with_reducible refine gate_builtin (b := .append) (xs := #[.tmp 51, .tmp 54]) rfl ?_); (try (refine gate_guard (by rfl) ?_; dsimp only)); at_builtin; refine Kd.R_append (Kd.int .i64) (w0 := w) w.heap.size rfl (.tmp 51) (.tmp 54) 56 3 (.int .i64 0) 8 rfl Try.underlying56 info3 rfl (by decide) (by omega) (.slice Ao24 x7_1.length co24) x7_1 (wrap64 (t689)) [.int .i64 (wrap64 (t689))] (fun _ => True) (fun _ => False) rfl rfl ?aP (fun _ hk => hk.elim) ?aF ?aO ?aB ?aS ?aL ?_; (case aP => exact rfl); (case aB => exact (by repeat (first | (with_reducible first | exact HB.out | apply below_alloc | apply pw_below_drewN | apply below_drew1 | refine below_set ?_ (IsS93.ge HI680.out)) | exact HB.out))); (case aF => exact (fun _ _ => trivial)); (case aO => exact (by (with_reducible repeat (first | apply Kd.R_alloc | apply Kd.R_drewN | apply Kd.R_drew)); exact HO_7.out)); (case aS => exact (below_size (by repeat (first | (with_reducible first | exact HB.out | apply below_alloc | apply pw_below_drewN | apply below_drew1 | refine below_set ?_ (IsS93.ge HI680.out)) | exact HB.out)))); (case aL => have := LMc20.out; omega); intro v694 w25 ho hb hg hat; rw [← Ny693.out] at ho; have n0_ := Aside0.mk (IsS93.grown (by repeat (first | (with_reducible first | exact HI680.out | apply IsS93.alloc | apply IsS93.drewN | apply IsS93.drew | apply IsS93.set_0 | apply IsS93.set_1 | apply IsS93.set_2) | exact HI680.out)) hg (IsS93.own_ne HI680.out HO_7.out (by decide))); have n1_ := Aside0.mk (hb); have n2_ := Aside0.mk (ho); clear HI680; clear HB; clear HO_7; have HI680 := n0_; have HB := n1_; have HO695 := n2_; clear n0_ n1_ n2_; clear ho hb hg hat)))
                      go_roundg k1
                      case measure => have := HK1.out; omega
                      case rel => exact ⟨(y693), (wrap64 (x8_1 - (wrap64 (t689)))), (t690), (t691), (t692), (by first | rfl | (simp; done) | (simp [*]; done)), H', ⟨by have := HK1.out; omega⟩, ⟨by (with_reducible repeat (first | apply Kd.R_alloc | apply Kd.R_drewN | apply Kd.R_drew)); exact HO695.out⟩, ⟨by repeat (first | (with_reducible first | exact HI680.out | apply IsS93.alloc | apply IsS93.drewN | apply IsS93.drew | apply IsS93.set_0 | apply IsS93.set_1 | apply IsS93.set_2) | exact HI680.out)⟩, ⟨by repeat (first | (with_reducible first | exact HB.out | apply below_alloc | apply pw_below_drewN | apply below_drew1 | refine below_set ?_ (IsS93.ge HI680.out)) | exact HB.out)⟩⟩
                    · rw [if_neg c20] at H
                      exact absurd H (by simp)
                · rw [if_neg c14] at H
                  have c14b0 : (t689 == 0) = false := beq_eq_false_iff_ne.mpr c14
                  have c14b1 : (t689 != 0) = true := bne_iff_ne.mpr c14
                  by_cases c26 : x7_1.length < 17592186044416
                  · rw [if_pos c26] at H
                    have LMc26 := Aside0.mk c26
                    clear c26
                    obtain ⟨y696, hy696⟩ : ∃ y_ : List Int, y_ = (x7_1 ++ [wrap64 (t689)]) := ⟨_, rfl⟩
                    replace H : (bonsairef07_Decode.l0 k1 a1 y696 (wrap64 (x8_1 - (wrap64 (t689)))) t690 t691 t692) = some (r1, r2) := by first | (rw [hy696]; with_reducible exact H) | (have H2_ := (Option.bind_some _ _).symm.trans H; rw [hy696]; with_reducible exact H2_) | (have H2_ := (Option.bind_some _ _).symm.trans H; with_reducible exact H2_) | with_reducible exact H | (rw [hy696]; exact H) | exact H
                    have Ny696 := Aside0.mk hy696
                    clear hy696
                    have H' := Aside0.mk H
                    clear H
                    go_wp2_with (first | (go_at_call 86; (with_reducible refine (bonsairef03_Reader_Left.calls gb680 x681000_1 x681001_1 x681002_1 t681 t682 t683 t684 w _ ?side1 ?side2 A6.out).mono ?_); (case side1 => repeat (first | (with_reducible first | exact HI680.out | apply IsS93.alloc | apply IsS93.drewN | apply IsS93.drew | apply IsS93.set_0 | apply IsS93.set_1 | apply IsS93.set_2) | exact HI680.out)); (case side2 => repeat (first | (with_reducible first | exact HB.out | apply below_alloc | apply pw_below_drewN | apply below_drew1 | refine below_set ?_ (IsS93.ge HI680.out)) | exact HB.out)); rintro e w27 ⟨rfl, hi, hb, hk⟩; have n0_ := Aside0.mk (Kd.R_mono (Kd.R_keep (IsS93.apart (show IsS93 w _ gb680 x681000_1 x681001_1 x681002_1 from by repeat (first | (with_reducible first | exact HI680.out | apply IsS93.alloc | apply IsS93.drewN | apply IsS93.drew | apply IsS93.set_0 | apply IsS93.set_1 | apply IsS93.set_2) | exact HI680.out)) (by (with_reducible repeat (first | apply Kd.R_alloc | apply Kd.R_drewN | apply Kd.R_drew)); exact HO_7.out) (by decide)) hk (fun _ h => h.2)) (fun _ h => h.1)); have n1_ := Aside0.mk (hb); have n2_ := Aside0.mk (hi); clear HO_7; clear HB; clear HI680; have HO_7 := n0_; have HB := n1_; have HI680 := n2_; clear n0_ n1_ n2_; (try clear hb); (try clear hb2); (try clear hk); (try clear hi)) | (go_at_call 85; (with_reducible refine (bonsairef03_Reader_Num.calls k1 gb680 t682 t683 t684 t689 t690 t691 t692 w _ ?side1 ?side2 A8.out).mono ?_); (case side1 => repeat (first | (with_reducible first | exact HI680.out | apply IsS93.alloc | apply IsS93.drewN | apply IsS93.drew | apply IsS93.set_0 | apply IsS93.set_1 | apply IsS93.set_2) | exact HI680.out)); (case side2 => repeat (first | (with_reducible first | exact HB.out | apply below_alloc | apply pw_below_drewN | apply below_drew1 | refine below_set ?_ (IsS93.ge HI680.out)) | exact HB.out)); rintro e w28 ⟨rfl, hi, hb, hk⟩; have n0_ := Aside0.mk (Kd.R_mono (Kd.R_keep (IsS93.apart (show IsS93 w _ gb680 t682 t683 t684 from by repeat (first | (with_reducible first | exact HI680.out | apply IsS93.alloc | apply IsS93.drewN | apply IsS93.drew | apply IsS93.set_0 | apply IsS93.set_1 | apply IsS93.set_2) | exact HI680.out)) (by (with_reducible repeat (first | apply Kd.R_alloc | apply Kd.R_drewN | apply Kd.R_drew)); exact HO_7.out) (by decide)) hk (fun _ h => h.2)) (fun _ h => h.1)); have n1_ := Aside0.mk (hb); have n2_ := Aside0.mk (hi); clear HO_7; clear HB; clear HI680; have HO_7 := n0_; have HB := n1_; have HI680 := n2_; clear n0_ n1_ n2_; (try clear hb); (try clear hb2); (try clear hk); (try clear hi); obtain ⟨HGz29, hgz29⟩ := HI680.out; have hcz29_0 := cellS93_0 HGz29; have hcz29_1 := cellS93_1 HGz29; have hcz29_2 := cellS93_2 HGz29; have hfz29_0 := blk_frozen HGz29 0; have hfz29_1 := blk_frozen HGz29 1; have hfz29_2 := blk_frozen HGz29 2; clear HGz29 hgz29) | ((with_reducible refine gate_builtin (b := .append) (xs := #[.tmp 51, .tmp 54]) rfl ?_); (try (refine gate_guard (by rfl) ?_; dsimp only)); at_builtin; refine Kd.R_append (Kd.int .i64) (w0 := w) w.heap.size rfl (.tmp 51) (.tmp 54) 56 3 (.int .i64 0) 8 rfl Try.underlying56 info3 rfl (by decide) (by omega) u7 x7_1 (wrap64 (t689)) [.int .i64 (wrap64 (t689))] (fun _ => True) (fun _ => False) rfl rfl ?aP (fun _ hk => hk.elim) ?aF ?aO ?aB ?aS ?aL ?_; (case aP => exact rfl); (case aB => exact (by repeat (first | (with_reducible first | exact HB.out | apply below_alloc | apply pw_below_drewN | apply below_drew1 | refine below_set ?_ (IsS93.ge HI680.out)) | exact HB.out))); (case aF => exact (fun _ _ => trivial)); (case aO => exact (by (with_reducible repeat (first | apply Kd.R_alloc | apply Kd.R_drewN | apply Kd.R_drew)); exact HO_7.out)); (case aS => exact (below_size (by repeat (first | (with_reducible first | exact HB.out | apply below_alloc | apply pw_below_drewN | apply below_drew1 | refine below_set ?_ (IsS93.ge HI680.out)) | exact HB.out)))); (case aL => have := LMc26.out; omega); intro v697 w30 ho hb hg hat; rw [← Ny696.out] at ho; have n0_ := Aside0.mk (IsS93.grown (by repeat (first | (with_reducible first | exact HI680.out | apply IsS93.alloc | apply IsS93.drewN | apply IsS93.drew | apply IsS93.set_0 | apply IsS93.set_1 | apply IsS93.set_2) | exact HI680.out)) hg (IsS93.own_ne HI680.out HO_7.out (by decide))); have n1_ := Aside0.mk (hb); have n2_ := Aside0.mk (ho); clear HI680; clear HB; clear HO_7; have HI680 := n0_; have HB := n1_; have HO698 := n2_; clear n0_ n1_ n2_; clear ho hb hg hat))
                    repeat (go_quiet (first | (go_at_call 86; (with_reducible refine (bonsairef03_Reader_Left.calls gb680 x681000_1 x681001_1 x681002_1 t681 t682 t683 t684 w _ ?side1 ?side2 A6.out).mono ?_); (case side1 => repeat (first | (with_reducible first | exact HI680.out | apply IsS93.alloc | apply IsS93.drewN | apply IsS93.drew | apply IsS93.set_0 | apply IsS93.set_1 | apply IsS93.set_2) | exact HI680.out)); (case side2 => repeat (first | (with_reducible first | exact HB.out | apply below_alloc | apply pw_below_drewN | apply below_drew1 | refine below_set ?_ (IsS93.ge HI680.out)) | exact HB.out)); rintro e w27 ⟨rfl, hi, hb, hk⟩; have n0_ := Aside0.mk (Kd.R_mono (Kd.R_keep (IsS93.apart (show IsS93 w _ gb680 x681000_1 x681001_1 x681002_1 from by repeat (first | (with_reducible first | exact HI680.out | apply IsS93.alloc | apply IsS93.drewN | apply IsS93.drew | apply IsS93.set_0 | apply IsS93.set_1 | apply IsS93.set_2) | exact HI680.out)) (by (with_reducible repeat (first | apply Kd.R_alloc | apply Kd.R_drewN | apply Kd.R_drew)); exact HO_7.out) (by decide)) hk (fun _ h => h.2)) (fun _ h => h.1)); have n1_ := Aside0.mk (hb); have n2_ := Aside0.mk (hi); clear HO_7; clear HB; clear HI680; have HO_7 := n0_; have HB := n1_; have HI680 := n2_; clear n0_ n1_ n2_; (try clear hb); (try clear hb2); (try clear hk); (try clear hi)) | (go_at_call 85; (with_reducible refine (bonsairef03_Reader_Num.calls k1 gb680 t682 t683 t684 t689 t690 t691 t692 w _ ?side1 ?side2 A8.out).mono ?_); (case side1 => repeat (first | (with_reducible first | exact HI680.out | apply IsS93.alloc | apply IsS93.drewN | apply IsS93.drew | apply IsS93.set_0 | apply IsS93.set_1 | apply IsS93.set_2) | exact HI680.out)); (case side2 => repeat (first | (with_reducible first | exact HB.out | apply below_alloc | apply pw_below_drewN | apply below_drew1 | refine below_set ?_ (IsS93.ge HI680.out)) | exact HB.out)); rintro e w28 ⟨rfl, hi, hb, hk⟩; have n0_ := Aside0.mk (Kd.R_mono (Kd.R_keep (IsS93.apart (show IsS93 w _ gb680 t682 t683 t684 from by repeat (first | (with_reducible first | exact HI680.out | apply IsS93.alloc | apply IsS93.drewN | apply IsS93.drew | apply IsS93.set_0 | apply IsS93.set_1 | apply IsS93.set_2) | exact HI680.out)) (by (with_reducible repeat (first | apply Kd.R_alloc | apply Kd.R_drewN | apply Kd.R_drew)); exact HO_7.out) (by decide)) hk (fun _ h => h.2)) (fun _ h => h.1)); have n1_ := Aside0.mk (hb); have n2_ := Aside0.mk (hi); clear HO_7; clear HB; clear HI680; have HO_7 := n0_; have HB := n1_; have HI680 := n2_; clear n0_ n1_ n2_; (try clear hb); (try clear hb2); (try clear hk); (try clear hi); obtain ⟨HGz29, hgz29⟩ := HI680.out; have hcz29_0 := cellS93_0 HGz29; have hcz29_1 := cellS93_1 HGz29; have hcz29_2 := cellS93_2 HGz29; have hfz29_0 := blk_frozen HGz29 0; have hfz29_1 := blk_frozen HGz29 1; have hfz29_2 := blk_frozen HGz29 2; clear HGz29 hgz29) | ((with_reducible refine gate_builtin (b := .append) (xs := #[.tmp 51, .tmp 54]) rfl ?_); (try (refine gate_guard (by rfl) ?_; dsimp only)); at_builtin; refine Kd.R_append (Kd.int .i64) (w0 := w) w.heap.size rfl (.tmp 51) (.tmp 54) 56 3 (.int .i64 0) 8 rfl Try.underlying56 info3 rfl (by decide) (by omega) u7 x7_1 (wrap64 (t689)) [.int .i64 (wrap64 (t689))] (fun _ => True) (fun _ => False) rfl rfl ?aP (fun _ hk => hk.elim) ?aF ?aO ?aB ?aS ?aL ?_; (case aP => exact rfl); (case aB => exact (by repeat (first | (with_reducible first | exact HB.out | apply below_alloc | apply pw_below_drewN | apply below_drew1 | refine below_set ?_ (IsS93.ge HI680.out)) | exact HB.out))); (case aF => exact (fun _ _ => trivial)); (case aO => exact (by (with_reducible repeat (first | apply Kd.R_alloc | apply Kd.R_drewN | apply Kd.R_drew)); exact HO_7.out)); (case aS => exact (below_size (by repeat (first | (with_reducible first | exact HB.out | apply below_alloc | apply pw_below_drewN | apply below_drew1 | refine below_set ?_ (IsS93.ge HI680.out)) | exact HB.out)))); (case aL => have := LMc26.out; omega); intro v697 w30 ho hb hg hat; rw [← Ny696.out] at ho; have n0_ := Aside0.mk (IsS93.grown (by repeat (first | (with_reducible first | exact HI680.out | apply IsS93.alloc | apply IsS93.drewN | apply IsS93.drew | apply IsS93.set_0 | apply IsS93.set_1 | apply IsS93.set_2) | exact HI680.out)) hg (IsS93.own_ne HI680.out HO_7.out (by decide))); have n1_ := Aside0.mk (hb); have n2_ := Aside0.mk (ho); clear HI680; clear HB; clear HO_7; have HI680 := n0_; have HB := n1_; have HO698 := n2_; clear n0_ n1_ n2_; clear ho hb hg hat)); try go_wp2_with (first | (go_at_call 86; (with_reducible refine (bonsairef03_Reader_Left.calls gb680 x681000_1 x681001_1 x681002_1 t681 t682 t683 t684 w _ ?side1 ?side2 A6.out).mono ?_); (case side1 => repeat (first | (with_reducible first | exact HI680.out | apply IsS93.alloc | apply IsS93.drewN | apply IsS93.drew | apply IsS93.set_0 | apply IsS93.set_1 | apply IsS93.set_2) | exact HI680.out)); (case side2 => repeat (first | (with_reducible first | exact HB.out | apply below_alloc | apply pw_below_drewN | apply below_drew1 | refine below_set ?_ (IsS93.ge HI680.out)) | exact HB.out)); rintro e w27 ⟨rfl, hi, hb, hk⟩; have n0_ := Aside0.mk (Kd.R_mono (Kd.R_keep (IsS93.apart (show IsS93 w _ gb680 x681000_1 x681001_1 x681002_1 from by repeat (first | (with_reducible first | exact HI680.out | apply IsS93.alloc | apply IsS93.drewN | apply IsS93.drew | apply IsS93.set_0 | apply IsS93.set_1 | apply IsS93.set_2) | exact HI680.out)) (by (with_reducible repeat (first | apply Kd.R_alloc | apply Kd.R_drewN | apply Kd.R_drew)); exact HO_7.out) (by decide)) hk (fun _ h => h.2)) (fun _ h => h.1)); have n1_ := Aside0.mk (hb); have n2_ := Aside0.mk (hi); clear HO_7; clear HB; clear HI680; have HO_7 := n0_; have HB := n1_; have HI680 := n2_; clear n0_ n1_ n2_; (try clear hb); (try clear hb2); (try clear hk); (try clear hi)) | (go_at_call 85; (with_reducible refine (bonsairef03_Reader_Num.calls k1 gb680 t682 t683 t684 t689 t690 t691 t692 w _ ?side1 ?side2 A8.out).mono ?_); (case side1 => repeat (first | (with_reducible first | exact HI680.out | apply IsS93.alloc | apply IsS93.drewN | apply IsS93.drew | apply IsS93.set_0 | apply IsS93.set_1 | apply IsS93.set_2) | exact HI680.out)); (case side2 => repeat (first | (with_reducible first | exact HB.out | apply below_alloc | apply pw_below_drewN | apply below_drew1 | refine below_set ?_ (IsS93.ge HI680.out)) | exact HB.out)); rintro e w28 ⟨rfl, hi, hb, hk⟩; have n0_ := Aside0.mk (Kd.R_mono (Kd.R_keep (IsS93.apart (show IsS93 w _ gb680 t682 t683 t684 from by repeat (first | (with_reducible first | exact HI680.out | apply IsS93.alloc | apply IsS93.drewN | apply IsS93.drew | apply IsS93.set_0 | apply IsS93.set_1 | apply IsS93.set_2) | exact HI680.out)) (by (with_reducible repeat (first | apply Kd.R_alloc | apply Kd.R_drewN | apply Kd.R_drew)); exact HO_7.out) (by decide)) hk (fun _ h => h.2)) (fun _ h => h.1)); have n1_ := Aside0.mk (hb); have n2_ := Aside0.mk (hi); clear HO_7; clear HB; clear HI680; have HO_7 := n0_; have HB := n1_; have HI680 := n2_; clear n0_ n1_ n2_; (try clear hb); (try clear hb2); (try clear hk); (try clear hi); obtain ⟨HGz29, hgz29⟩ := HI680.out; have hcz29_0 := cellS93_0 HGz29; have hcz29_1 := cellS93_1 HGz29; have hcz29_2 := cellS93_2 HGz29; have hfz29_0 := blk_frozen HGz29 0; have hfz29_1 := blk_frozen HGz29 1; have hfz29_2 := blk_frozen HGz29 2; clear HGz29 hgz29) | ((with_reducible refine gate_builtin (b := .append) (xs := #[.tmp 51, .tmp 54]) rfl ?_); (try (refine gate_guard (by rfl) ?_; dsimp only)); at_builtin; refine Kd.R_append (Kd.int .i64) (w0 := w) w.heap.size rfl (.tmp 51) (.tmp 54) 56 3 (.int .i64 0) 8 rfl Try.underlying56 info3 rfl (by decide) (by omega) u7 x7_1 (wrap64 (t689)) [.int .i64 (wrap64 (t689))] (fun _ => True) (fun _ => False) rfl rfl ?aP (fun _ hk => hk.elim) ?aF ?aO ?aB ?aS ?aL ?_; (case aP => exact rfl); (case aB => exact (by repeat (first | (with_reducible first | exact HB.out | apply below_alloc | apply pw_below_drewN | apply below_drew1 | refine below_set ?_ (IsS93.ge HI680.out)) | exact HB.out))); (case aF => exact (fun _ _ => trivial)); (case aO => exact (by (with_reducible repeat (first | apply Kd.R_alloc | apply Kd.R_drewN | apply Kd.R_drew)); exact HO_7.out)); (case aS => exact (below_size (by repeat (first | (with_reducible first | exact HB.out | apply below_alloc | apply pw_below_drewN | apply below_drew1 | refine below_set ?_ (IsS93.ge HI680.out)) | exact HB.out)))); (case aL => have := LMc26.out; omega); intro v697 w30 ho hb hg hat; rw [← Ny696.out] at ho; have n0_ := Aside0.mk (IsS93.grown (by repeat (first | (with_reducible first | exact HI680.out | apply IsS93.alloc | apply IsS93.drewN | apply IsS93.drew | apply IsS93.set_0 | apply IsS93.set_1 | apply IsS93.set_2) | exact HI680.out)) hg (IsS93.own_ne HI680.out HO_7.out (by decide))); have n1_ := Aside0.mk (hb); have n2_ := Aside0.mk (ho); clear HI680; clear HB; clear HO_7; have HI680 := n0_; have HB := n1_; have HO698 := n2_; clear n0_ n1_ n2_; clear ho hb hg hat)))
                    go_roundg k1
                    case measure => have := HK1.out; omega
                    case rel => exact ⟨(y696), (wrap64 (x8_1 - (wrap64 (t689)))), (t690), (t691), (t692), (by first | rfl | (simp; done) | (simp [*]; done)), H', ⟨by have := HK1.out; omega⟩, ⟨by (with_reducible repeat (first | apply Kd.R_alloc | apply Kd.R_drewN | apply Kd.R_drew)); exact HO698.out⟩, ⟨by repeat (first | (with_reducible first | exact HI680.out | apply IsS93.alloc | apply IsS93.drewN | apply IsS93.drew | apply IsS93.set_0 | apply IsS93.set_1 | apply IsS93.set_2) | exact HI680.out)⟩, ⟨by repeat (first | (with_reducible first | exact HB.out | apply below_alloc | apply pw_below_drewN | apply below_drew1 | refine below_set ?_ (IsS93.ge HI680.out)) | exact HB.out)⟩⟩
                  · rw [if_neg c26] at H
                    exact absurd H (by simp)
            · rw [if_neg c9] at H
              have c9b0 : (t692 == 0) = false := beq_eq_false_iff_ne.mpr c9
              have c9b1 : (t692 != 0) = true := bne_iff_ne.mpr c9
              simp only [Option.some.injEq, Prod.mk.injEq] at H
              obtain ⟨rfl, rfl⟩ := H
              go_wp2_with (first | (go_at_call 86; (with_reducible refine (bonsairef03_Reader_Left.calls gb680 x681000_1 x681001_1 x681002_1 t681 t682 t683 t684 w _ ?side1 ?side2 A6.out).mono ?_); (case side1 => repeat (first | (with_reducible first | exact HI680.out | apply IsS93.alloc | apply IsS93.drewN | apply IsS93.drew | apply IsS93.set_0 | apply IsS93.set_1 | apply IsS93.set_2) | exact HI680.out)); (case side2 => repeat (first | (with_reducible first | exact HB.out | apply below_alloc | apply pw_below_drewN | apply below_drew1 | refine below_set ?_ (IsS93.ge HI680.out)) | exact HB.out)); rintro e w31 ⟨rfl, hi, hb, hk⟩; have n0_ := Aside0.mk (Kd.R_mono (Kd.R_keep (IsS93.apart (show IsS93 w _ gb680 x681000_1 x681001_1 x681002_1 from by repeat (first | (with_reducible first | exact HI680.out | apply IsS93.alloc | apply IsS93.drewN | apply IsS93.drew | apply IsS93.set_0 | apply IsS93.set_1 | apply IsS93.set_2) | exact HI680.out)) (by (with_reducible repeat (first | apply Kd.R_alloc | apply Kd.R_drewN | apply Kd.R_drew)); exact HO_7.out) (by decide)) hk (fun _ h => h.2)) (fun _ h => h.1)); have n1_ := Aside0.mk (hb); have n2_ := Aside0.mk (hi); clear HO_7; clear HB; clear HI680; have HO_7 := n0_; have HB := n1_; have HI680 := n2_; clear n0_ n1_ n2_; (try clear hb); (try clear hb2); (try clear hk); (try clear hi)) | (go_at_call 85; (with_reducible refine (bonsairef03_Reader_Num.calls k1 gb680 t682 t683 t684 t689 t690 t691 t692 w _ ?side1 ?side2 A8.out).mono ?_); (case side1 => repeat (first | (with_reducible first | exact HI680.out | apply IsS93.alloc | apply IsS93.drewN | apply IsS93.drew | apply IsS93.set_0 | apply IsS93.set_1 | apply IsS93.set_2) | exact HI680.out)); (case side2 => repeat (first | (with_reducible first | exact HB.out | apply below_alloc | apply pw_below_drewN | apply below_drew1 | refine below_set ?_ (IsS93.ge HI680.out)) | exact HB.out)); rintro e w32 ⟨rfl, hi, hb, hk⟩; have n0_ := Aside0.mk (Kd.R_mono (Kd.R_keep (IsS93.apart (show IsS93 w _ gb680 t682 t683 t684 from by repeat (first | (with_reducible first | exact HI680.out | apply IsS93.alloc | apply IsS93.drewN | apply IsS93.drew | apply IsS93.set_0 | apply IsS93.set_1 | apply IsS93.set_2) | exact HI680.out)) (by (with_reducible repeat (first | apply Kd.R_alloc | apply Kd.R_drewN | apply Kd.R_drew)); exact HO_7.out) (by decide)) hk (fun _ h => h.2)) (fun _ h => h.1)); have n1_ := Aside0.mk (hb); have n2_ := Aside0.mk (hi); clear HO_7; clear HB; clear HI680; have HO_7 := n0_; have HB := n1_; have HI680 := n2_; clear n0_ n1_ n2_; (try clear hb); (try clear hb2); (try clear hk); (try clear hi); obtain ⟨HGz33, hgz33⟩ := HI680.out; have hcz33_0 := cellS93_0 HGz33; have hcz33_1 := cellS93_1 HGz33; have hcz33_2 := cellS93_2 HGz33; have hfz33_0 := blk_frozen HGz33 0; have hfz33_1 := blk_frozen HGz33 1; have hfz33_2 := blk_frozen HGz33 2; clear HGz33 hgz33))
              repeat (go_quiet (first | (go_at_call 86; (with_reducible refine (bonsairef03_Reader_Left.calls gb680 x681000_1 x681001_1 x681002_1 t681 t682 t683 t684 w _ ?side1 ?side2 A6.out).mono ?_); (case side1 => repeat (first | (with_reducible first | exact HI680.out | apply IsS93.alloc | apply IsS93.drewN | apply IsS93.drew | apply IsS93.set_0 | apply IsS93.set_1 | apply IsS93.set_2) | exact HI680.out)); (case side2 => repeat (first | (with_reducible first | exact HB.out | apply below_alloc | apply pw_below_drewN | apply below_drew1 | refine below_set ?_ (IsS93.ge HI680.out)) | exact HB.out)); rintro e w31 ⟨rfl, hi, hb, hk⟩; have n0_ := Aside0.mk (Kd.R_mono (Kd.R_keep (IsS93.apart (show IsS93 w _ gb680 x681000_1 x681001_1 x681002_1 from by repeat (first | (with_reducible first | exact HI680.out | apply IsS93.alloc | apply IsS93.drewN | apply IsS93.drew | apply IsS93.set_0 | apply IsS93.set_1 | apply IsS93.set_2) | exact HI680.out)) (by (with_reducible repeat (first | apply Kd.R_alloc | apply Kd.R_drewN | apply Kd.R_drew)); exact HO_7.out) (by decide)) hk (fun _ h => h.2)) (fun _ h => h.1)); have n1_ := Aside0.mk (hb); have n2_ := Aside0.mk (hi); clear HO_7; clear HB; clear HI680; have HO_7 := n0_; have HB := n1_; have HI680 := n2_; clear n0_ n1_ n2_; (try clear hb); (try clear hb2); (try clear hk); (try clear hi)) | (go_at_call 85; (with_reducible refine (bonsairef03_Reader_Num.calls k1 gb680 t682 t683 t684 t689 t690 t691 t692 w _ ?side1 ?side2 A8.out).mono ?_); (case side1 => repeat (first | (with_reducible first | exact HI680.out | apply IsS93.alloc | apply IsS93.drewN | apply IsS93.drew | apply IsS93.set_0 | apply IsS93.set_1 | apply IsS93.set_2) | exact HI680.out)); (case side2 => repeat (first | (with_reducible first | exact HB.out | apply below_alloc | apply pw_below_drewN | apply below_drew1 | refine below_set ?_ (IsS93.ge HI680.out)) | exact HB.out)); rintro e w32 ⟨rfl, hi, hb, hk⟩; have n0_ := Aside0.mk (Kd.R_mono (Kd.R_keep (IsS93.apart (show IsS93 w _ gb680 t682 t683 t684 from by repeat (first | (with_reducible first | exact HI680.out | apply IsS93.alloc | apply IsS93.drewN | apply IsS93.drew | apply IsS93.set_0 | apply IsS93.set_1 | apply IsS93.set_2) | exact HI680.out)) (by (with_reducible repeat (first | apply Kd.R_alloc | apply Kd.R_drewN | apply Kd.R_drew)); exact HO_7.out) (by decide)) hk (fun _ h => h.2)) (fun _ h => h.1)); have n1_ := Aside0.mk (hb); have n2_ := Aside0.mk (hi); clear HO_7; clear HB; clear HI680; have HO_7 := n0_; have HB := n1_; have HI680 := n2_; clear n0_ n1_ n2_; (try clear hb); (try clear hb2); (try clear hk); (try clear hi); obtain ⟨HGz33, hgz33⟩ := HI680.out; have hcz33_0 := cellS93_0 HGz33; have hcz33_1 := cellS93_1 HGz33; have hcz33_2 := cellS93_2 HGz33; have hfz33_0 := blk_frozen HGz33 0; have hfz33_1 := blk_frozen HGz33 1; have hfz33_2 := blk_frozen HGz33 2; clear HGz33 hgz33)); try go_wp2_with (first | (go_at_call 86; (with_reducible refine (bonsairef03_Reader_Left.calls gb680 x681000_1 x681001_1 x681002_1 t681 t682 t683 t684 w _ ?side1 ?side2 A6.out).mono ?_); (case side1 => repeat (first | (with_reducible first | exact HI680.out | apply IsS93.alloc | apply IsS93.drewN | apply IsS93.drew | apply IsS93.set_0 | apply IsS93.set_1 | apply IsS93.set_2) | exact HI680.out)); (case side2 => repeat (first | (with_reducible first | exact HB.out | apply below_alloc | apply pw_below_drewN | apply below_drew1 | refine below_set ?_ (IsS93.ge HI680.out)) | exact HB.out)); rintro e w31 ⟨rfl, hi, hb, hk⟩; have n0_ := Aside0.mk (Kd.R_mono (Kd.R_keep (IsS93.apart (show IsS93 w _ gb680 x681000_1 x681001_1 x681002_1 from by repeat (first | (with_reducible first | exact HI680.out | apply IsS93.alloc | apply IsS93.drewN | apply IsS93.drew | apply IsS93.set_0 | apply IsS93.set_1 | apply IsS93.set_2) | exact HI680.out)) (by (with_reducible repeat (first | apply Kd.R_alloc | apply Kd.R_drewN | apply Kd.R_drew)); exact HO_7.out) (by decide)) hk (fun _ h => h.2)) (fun _ h => h.1)); have n1_ := Aside0.mk (hb); have n2_ := Aside0.mk (hi); clear HO_7; clear HB; clear HI680; have HO_7 := n0_; have HB := n1_; have HI680 := n2_; clear n0_ n1_ n2_; (try clear hb); (try clear hb2); (try clear hk); (try clear hi)) | (go_at_call 85; (with_reducible refine (bonsairef03_Reader_Num.calls k1 gb680 t682 t683 t684 t689 t690 t691 t692 w _ ?side1 ?side2 A8.out).mono ?_); (case side1 => repeat (first | (with_reducible first | exact HI680.out | apply IsS93.alloc | apply IsS93.drewN | apply IsS93.drew | apply IsS93.set_0 | apply IsS93.set_1 | apply IsS93.set_2) | exact HI680.out)); (case side2 => repeat (first | (with_reducible first | exact HB.out | apply below_alloc | apply pw_below_drewN | apply below_drew1 | refine below_set ?_ (IsS93.ge HI680.out)) | exact HB.out)); rintro e w32 ⟨rfl, hi, hb, hk⟩; have n0_ := Aside0.mk (Kd.R_mono (Kd.R_keep (IsS93.apart (show IsS93 w _ gb680 t682 t683 t684 from by repeat (first | (with_reducible first | exact HI680.out | apply IsS93.alloc | apply IsS93.drewN | apply IsS93.drew | apply IsS93.set_0 | apply IsS93.set_1 | apply IsS93.set_2) | exact HI680.out)) (by (with_reducible repeat (first | apply Kd.R_alloc | apply Kd.R_drewN | apply Kd.R_drew)); exact HO_7.out) (by decide)) hk (fun _ h => h.2)) (fun _ h => h.1)); have n1_ := Aside0.mk (hb); have n2_ := Aside0.mk (hi); clear HO_7; clear HB; clear HI680; have HO_7 := n0_; have HB := n1_; have HI680 := n2_; clear n0_ n1_ n2_; (try clear hb); (try clear hb2); (try clear hk); (try clear hi); obtain ⟨HGz33, hgz33⟩ := HI680.out; have hcz33_0 := cellS93_0 HGz33; have hcz33_1 := cellS93_1 HGz33; have hcz33_2 := cellS93_2 HGz33; have hfz33_0 := blk_frozen HGz33 0; have hfz33_1 := blk_frozen HGz33 1; have hfz33_2 := blk_frozen HGz33 2; clear HGz33 hgz33)))
              go_ret2
              exact ⟨_, by first | rfl | (simp [errW_none, errW_some] <;> rfl) | (simp [*, errW_none, errW_some] <;> rfl), by first | exact Kd.R_nil _ _ _ _ _ | exact Kd.N_nil _ _ _ _ _ | exact Kd.V_nil _ _ _ _ _ | exact Kd.Q_nil _ _ _ _ _ | exact Kd.S_nil _ _ _ _ _, by repeat (first | (with_reducible first | exact HB.out | apply below_alloc | apply pw_below_drewN | apply below_drew1 | refine below_set ?_ (IsS93.ge HI680.out)) | exact HB.out)⟩
          · rw [if_neg c7] at H
            have c7b0 : decide (0 < t681) = false := decide_eq_false c7
            clear c7
            replace H := Option.bind_eq_some_iff.mp H
            obtain ⟨⟨t685, t686⟩, A340, H⟩ := H
            replace H : (if t686 = true then (if x8_1 > 0 then (some (([] : List Bool), 5)) else (some (t685, 0))) else (some (([] : List Bool), 5))) = some (r1, r2) := H
            have A34 := Aside0.mk A340
            clear A340
            by_cases c35 : t686 = true
            · subst c35
              have H1 : (if x8_1 > 0 then (some (([] : List Bool), 5)) else (some (t685, 0))) = some (r1, r2) := by rw [if_pos rfl] at H; exact H
              clear H
              have H := H1
              clear H1
              by_cases c36 : x8_1 > 0
              · rw [if_pos c36] at H
                have c36b0 : decide (0 < x8_1) = true := decide_eq_true c36
                clear c36
                simp only [Option.some.injEq, Prod.mk.injEq] at H
                obtain ⟨rfl, rfl⟩ := H
                go_wp2_with (first | (go_at_call 86; (with_reducible refine (bonsairef03_Reader_Left.calls gb680 x681000_1 x681001_1 x681002_1 t681 t682 t683 t684 w _ ?side1 ?side2 A6.out).mono ?_); (case side1 => repeat (first | (with_reducible first | exact HI680.out | apply IsS93.alloc | apply IsS93.drewN | apply IsS93.drew | apply IsS93.set_0 | apply IsS93.set_1 | apply IsS93.set_2) | exact HI680.out)); (case side2 => repeat (first | (with_reducible first | exact HB.out | apply below_alloc | apply pw_below_drewN | apply below_drew1 | refine below_set ?_ (IsS93.ge HI680.out)) | exact HB.out)); rintro e w37 ⟨rfl, hi, hb, hk⟩; have n0_ := Aside0.mk (Kd.R_mono (Kd.R_keep (IsS93.apart (show IsS93 w _ gb680 x681000_1 x681001_1 x681002_1 from by repeat (first | (with_reducible first | exact HI680.out | apply IsS93.alloc | apply IsS93.drewN | apply IsS93.drew | apply IsS93.set_0 | apply IsS93.set_1 | apply IsS93.set_2) | exact HI680.out)) (by (with_reducible repeat (first | apply Kd.R_alloc | apply Kd.R_drewN | apply Kd.R_drew)); exact HO_7.out) (by decide)) hk (fun _ h => h.2)) (fun _ h => h.1)); have n1_ := Aside0.mk (hb); have n2_ := Aside0.mk (hi); clear HO_7; clear HB; clear HI680; have HO_7 := n0_; have HB := n1_; have HI680 := n2_; clear n0_ n1_ n2_; (try clear hb); (try clear hb2); (try clear hk); (try clear hi); obtain ⟨Ao38, co38, eo38⟩ := Kd.R_slice HO_7.out; subst eo38) | (go_at_call 53; (with_reducible refine (bonsairef07_Spread.calls k1 _ _ x7_1 a1 t685 true _ ?side1 ?side2 A34.out).mono ?_); (case side1 => repeat (first | exact (Kd.R_reads' HO_7.out).2.2 | (with_reducible refine Kd.C_alloc ?_ _) | (with_reducible refine Kd.C_drewN ?_ _) | (with_reducible refine Kd.C_drew ?_))); (case side2 => exact (Kd.R_reads' HO_7.out).2.1); rintro e w39 ⟨v687, rfl, ho0, hb⟩; have n0_ := Aside0.mk (Kd.R_below (by (with_reducible repeat (first | apply Kd.R_alloc | apply Kd.R_drewN | apply Kd.R_drew)); exact HO_7.out) hb); have n1_ := Aside0.mk (Kd.R_lower ho0 (below_size (by repeat (first | (with_reducible first | exact HB.out | apply below_alloc | apply pw_below_drewN | apply below_drew1 | refine below_set ?_ (IsS93.ge HI680.out)) | exact HB.out)))); have n2_ := Aside0.mk (IsS93.below (by repeat (first | (with_reducible first | exact HI680.out | apply IsS93.alloc | apply IsS93.drewN | apply IsS93.drew | apply IsS93.set_0 | apply IsS93.set_1 | apply IsS93.set_2) | exact HI680.out)) hb); have n3_ := Aside0.mk (below_step (by repeat (first | (with_reducible first | exact HB.out | apply below_alloc | apply pw_below_drewN | apply below_drew1 | refine below_set ?_ (IsS93.ge HI680.out)) | exact HB.out)) hb); clear HO_7; clear HI680; clear HB; have HO_7 := n0_; have HO688 := n1_; have HI680 := n2_; have HB := n3_; clear n0_ n1_ n2_ n3_; (try clear hb); (try clear hb2); (try clear hk); (try clear hi); (try clear ho0)))
                repeat (go_quiet (first | (go_at_call 86; (with_reducible refine (bonsairef03_Reader_Left.calls gb680 x681000_1 x681001_1 x681002_1 t681 t682 t683 t684 w _ ?side1 ?side2 A6.out).mono ?_); (case side1 => repeat (first | (with_reducible first | exact HI680.out | apply IsS93.alloc | apply IsS93.drewN | apply IsS93.drew | apply IsS93.set_0 | apply IsS93.set_1 | apply IsS93.set_2) | exact HI680.out)); (case side2 => repeat (first | (with_reducible first | exact HB.out | apply below_alloc | apply pw_below_drewN | apply below_drew1 | refine below_set ?_ (IsS93.ge HI680.out)) | exact HB.out)); rintro e w37 ⟨rfl, hi, hb, hk⟩; have n0_ := Aside0.mk (Kd.R_mono (Kd.R_keep (IsS93.apart (show IsS93 w _ gb680 x681000_1 x681001_1 x681002_1 from by repeat (first | (with_reducible first | exact HI680.out | apply IsS93.alloc | apply IsS93.drewN | apply IsS93.drew | apply IsS93.set_0 | apply IsS93.set_1 | apply IsS93.set_2) | exact HI680.out)) (by (with_reducible repeat (first | apply Kd.R_alloc | apply Kd.R_drewN | apply Kd.R_drew)); exact HO_7.out) (by decide)) hk (fun _ h => h.2)) (fun _ h => h.1)); have n1_ := Aside0.mk (hb); have n2_ := Aside0.mk (hi); clear HO_7; clear HB; clear HI680; have HO_7 := n0_; have HB := n1_; have HI680 := n2_; clear n0_ n1_ n2_; (try clear hb); (try clear hb2); (try clear hk); (try clear hi); obtain ⟨Ao38, co38, eo38⟩ := Kd.R_slice HO_7.out; subst eo38) | (go_at_call 53; (with_reducible refine (bonsairef07_Spread.calls k1 _ _ x7_1 a1 t685 true _ ?side1 ?side2 A34.out).mono ?_); (case side1 => repeat (first | exact (Kd.R_reads' HO_7.out).2.2 | (with_reducible refine Kd.C_alloc ?_ _) | (with_reducible refine Kd.C_drewN ?_ _) | (with_reducible refine Kd.C_drew ?_))); (case side2 => exact (Kd.R_reads' HO_7.out).2.1); rintro e w39 ⟨v687, rfl, ho0, hb⟩; have n0_ := Aside0.mk (Kd.R_below (by (with_reducible repeat (first | apply Kd.R_alloc | apply Kd.R_drewN | apply Kd.R_drew)); exact HO_7.out) hb); have n1_ := Aside0.mk (Kd.R_lower ho0 (below_size (by repeat (first | (with_reducible first | exact HB.out | apply below_alloc | apply pw_below_drewN | apply below_drew1 | refine below_set ?_ (IsS93.ge HI680.out)) | exact HB.out)))); have n2_ := Aside0.mk (IsS93.below (by repeat (first | (with_reducible first | exact HI680.out | apply IsS93.alloc | apply IsS93.drewN | apply IsS93.drew | apply IsS93.set_0 | apply IsS93.set_1 | apply IsS93.set_2) | exact HI680.out)) hb); have n3_ := Aside0.mk (below_step (by repeat (first | (with_reducible first | exact HB.out | apply below_alloc | apply pw_below_drewN | apply below_drew1 | refine below_set ?_ (IsS93.ge HI680.out)) | exact HB.out)) hb); clear HO_7; clear HI680; clear HB; have HO_7 := n0_; have HO688 := n1_; have HI680 := n2_; have HB := n3_; clear n0_ n1_ n2_ n3_; (try clear hb); (try clear hb2); (try clear hk); (try clear hi); (try clear ho0))); try go_wp2_with (first | (go_at_call 86; (with_reducible refine (bonsairef03_Reader_Left.calls gb680 x681000_1 x681001_1 x681002_1 t681 t682 t683 t684 w _ ?side1 ?side2 A6.out).mono ?_); (case side1 => repeat (first | (with_reducible first | exact HI680.out | apply IsS93.alloc | apply IsS93.drewN | apply IsS93.drew | apply IsS93.set_0 | apply IsS93.set_1 | apply IsS93.set_2) | exact HI680.out)); (case side2 => repeat (first | (with_reducible first | exact HB.out | apply below_alloc | apply pw_below_drewN | apply below_drew1 | refine below_set ?_ (IsS93.ge HI680.out)) | exact HB.out)); rintro e w37 ⟨rfl, hi, hb, hk⟩; have n0_ := Aside0.mk (Kd.R_mono (Kd.R_keep (IsS93.apart (show IsS93 w _ gb680 x681000_1 x681001_1 x681002_1 from by repeat (first | (with_reducible first | exact HI680.out | apply IsS93.alloc | apply IsS93.drewN | apply IsS93.drew | apply IsS93.set_0 | apply IsS93.set_1 | apply IsS93.set_2) | exact HI680.out)) (by (with_reducible repeat (first | apply Kd.R_alloc | apply Kd.R_drewN | apply Kd.R_drew)); exact HO_7.out) (by decide)) hk (fun _ h => h.2)) (fun _ h => h.1)); have n1_ := Aside0.mk (hb); have n2_ := Aside0.mk (hi); clear HO_7; clear HB; clear HI680; have HO_7 := n0_; have HB := n1_; have HI680 := n2_; clear n0_ n1_ n2_; (try clear hb); (try clear hb2); (try clear hk); (try clear hi); obtain ⟨Ao38, co38, eo38⟩ := Kd.R_slice HO_7.out; subst eo38) | (go_at_call 53; (with_reducible refine (bonsairef07_Spread.calls k1 _ _ x7_1 a1 t685 true _ ?side1 ?side2 A34.out).mono ?_); (case side1 => repeat (first | exact (Kd.R_reads' HO_7.out).2.2 | (with_reducible refine Kd.C_alloc ?_ _) | (with_reducible refine Kd.C_drewN ?_ _) | (with_reducible refine Kd.C_drew ?_))); (case side2 => exact (Kd.R_reads' HO_7.out).2.1); rintro e w39 ⟨v687, rfl, ho0, hb⟩; have n0_ := Aside0.mk (Kd.R_below (by (with_reducible repeat (first | apply Kd.R_alloc | apply Kd.R_drewN | apply Kd.R_drew)); exact HO_7.out) hb); have n1_ := Aside0.mk (Kd.R_lower ho0 (below_size (by repeat (first | (with_reducible first | exact HB.out | apply below_alloc | apply pw_below_drewN | apply below_drew1 | refine below_set ?_ (IsS93.ge HI680.out)) | exact HB.out)))); have n2_ := Aside0.mk (IsS93.below (by repeat (first | (with_reducible first | exact HI680.out | apply IsS93.alloc | apply IsS93.drewN | apply IsS93.drew | apply IsS93.set_0 | apply IsS93.set_1 | apply IsS93.set_2) | exact HI680.out)) hb); have n3_ := Aside0.mk (below_step (by repeat (first | (with_reducible first | exact HB.out | apply below_alloc | apply pw_below_drewN | apply below_drew1 | refine below_set ?_ (IsS93.ge HI680.out)) | exact HB.out)) hb); clear HO_7; clear HI680; clear HB; have HO_7 := n0_; have HO688 := n1_; have HI680 := n2_; have HB := n3_; clear n0_ n1_ n2_ n3_; (try clear hb); (try clear hb2); (try clear hk); (try clear hi); (try clear ho0))))
                go_ret2
                exact ⟨_, by first | rfl | (simp [errW_none, errW_some] <;> rfl) | (simp [*, errW_none, errW_some] <;> rfl), by first | exact Kd.R_nil _ _ _ _ _ | exact Kd.N_nil _ _ _ _ _ | exact Kd.V_nil _ _ _ _ _ | exact Kd.Q_nil _ _ _ _ _ | exact Kd.S_nil _ _ _ _ _, by repeat (first | (with_reducible first | exact HB.out | apply below_alloc | apply pw_below_drewN | apply below_drew1 | refine below_set ?_ (IsS93.ge HI680.out)) | exact HB.out)⟩
              · rw [if_neg c36] at H
                have c36b0 : decide (0 < x8_1) = false := decide_eq_false c36
                clear c36
                simp only [Option.some.injEq, Prod.mk.injEq] at H
                obtain ⟨rfl, rfl⟩ := H
                go_wp2_with (first | (go_at_call 86; (with_reducible refine (bonsairef03_Reader_Left.calls gb680 x681000_1 x681001_1 x681002_1 t681 t682 t683 t684 w _ ?side1 ?side2 A6.out).mono ?_); (case side1 => repeat (first | (with_reducible first | exact HI680.out | apply IsS93.alloc | apply IsS93.drewN | apply IsS93.drew | apply IsS93.set_0 | apply IsS93.set_1 | apply IsS93.set_2) | exact HI680.out)); (case side2 => repeat (first | (with_reducible first | exact HB.out | apply below_alloc | apply pw_below_drewN | apply below_drew1 | refine below_set ?_ (IsS93.ge HI680.out)) | exact HB.out)); rintro e w40 ⟨rfl, hi, hb, hk⟩; have n0_ := Aside0.mk (Kd.R_mono (Kd.R_keep (IsS93.apart (show IsS93 w _ gb680 x681000_1 x681001_1 x681002_1 from by repeat (first | (with_reducible first | exact HI680.out | apply IsS93.alloc | apply IsS93.drewN | apply IsS93.drew | apply IsS93.set_0 | apply IsS93.set_1 | apply IsS93.set_2) | exact HI680.out)) (by (with_reducible repeat (first | apply Kd.R_alloc | apply Kd.R_drewN | apply Kd.R_drew)); exact HO_7.out) (by decide)) hk (fun _ h => h.2)) (fun _ h => h.1)); have n1_ := Aside0.mk (hb); have n2_ := Aside0.mk (hi); clear HO_7; clear HB; clear HI680; have HO_7 := n0_; have HB := n1_; have HI680 := n2_; clear n0_ n1_ n2_; (try clear hb); (try clear hb2); (try clear hk); (try clear hi); obtain ⟨Ao41, co41, eo41⟩ := Kd.R_slice HO_7.out; subst eo41) | (go_at_call 53; (with_reducible refine (bonsairef07_Spread.calls k1 _ _ x7_1 a1 t685 true _ ?side1 ?side2 A34.out).mono ?_); (case side1 => repeat (first | exact (Kd.R_reads' HO_7.out).2.2 | (with_reducible refine Kd.C_alloc ?_ _) | (with_reducible refine Kd.C_drewN ?_ _) | (with_reducible refine Kd.C_drew ?_))); (case side2 => exact (Kd.R_reads' HO_7.out).2.1); rintro e w42 ⟨v687, rfl, ho0, hb⟩; have n0_ := Aside0.mk (Kd.R_below (by (with_reducible repeat (first | apply Kd.R_alloc | apply Kd.R_drewN | apply Kd.R_drew)); exact HO_7.out) hb); have n1_ := Aside0.mk (Kd.R_lower ho0 (below_size (by repeat (first | (with_reducible first | exact HB.out | apply below_alloc | apply pw_below_drewN | apply below_drew1 | refine below_set ?_ (IsS93.ge HI680.out)) | exact HB.out)))); have n2_ := Aside0.mk (IsS93.below (by repeat (first | (with_reducible first | exact HI680.out | apply IsS93.alloc | apply IsS93.drewN | apply IsS93.drew | apply IsS93.set_0 | apply IsS93.set_1 | apply IsS93.set_2) | exact HI680.out)) hb); have n3_ := Aside0.mk (below_step (by repeat (first | (with_reducible first | exact HB.out | apply below_alloc | apply pw_below_drewN | apply below_drew1 | refine below_set ?_ (IsS93.ge HI680.out)) | exact HB.out)) hb); clear HO_7; clear HI680; clear HB; have HO_7 := n0_; have HO688 := n1_; have HI680 := n2_; have HB := n3_; clear n0_ n1_ n2_ n3_; (try clear hb); (try clear hb2); (try clear hk); (try clear hi); (try clear ho0)))
                repeat (go_quiet (first | (go_at_call 86; (with_reducible refine (bonsairef03_Reader_Left.calls gb680 x681000_1 x681001_1 x681002_1 t681 t682 t683 t684 w _ ?side1 ?side2 A6.out).mono ?_); (case side1 => repeat (first | (with_reducible first | exact HI680.out | apply IsS93.alloc | apply IsS93.drewN | apply IsS93.drew | apply IsS93.set_0 | apply IsS93.set_1 | apply IsS93.set_2) | exact HI680.out)); (case side2 => repeat (first | (with_reducible first | exact HB.out | apply below_alloc | apply pw_below_drewN | apply below_drew1 | refine below_set ?_ (IsS93.ge HI680.out)) | exact HB.out)); rintro e w40 ⟨rfl, hi, hb, hk⟩; have n0_ := Aside0.mk (Kd.R_mono (Kd.R_keep (IsS93.apart (show IsS93 w _ gb680 x681000_1 x681001_1 x681002_1 from by repeat (first | (with_reducible first | exact HI680.out | apply IsS93.alloc | apply IsS93.drewN | apply IsS93.drew | apply IsS93.set_0 | apply IsS93.set_1 | apply IsS93.set_2) | exact HI680.out)) (by (with_reducible repeat (first | apply Kd.R_alloc | apply Kd.R_drewN | apply Kd.R_drew)); exact HO_7.out) (by decide)) hk (fun _ h => h.2)) (fun _ h => h.1)); have n1_ := Aside0.mk (hb); have n2_ := Aside0.mk (hi); clear HO_7; clear HB; clear HI680; have HO_7 := n0_; have HB := n1_; have HI680 := n2_; clear n0_ n1_ n2_; (try clear hb); (try clear hb2); (try clear hk); (try clear hi); obtain ⟨Ao41, co41, eo41⟩ := Kd.R_slice HO_7.out; subst eo41) | (go_at_call 53; (with_reducible refine (bonsairef07_Spread.calls k1 _ _ x7_1 a1 t685 true _ ?side1 ?side2 A34.out).mono ?_); (case side1 => repeat (first | exact (Kd.R_reads' HO_7.out).2.2 | (with_reducible refine Kd.C_alloc ?_ _) | (with_reducible refine Kd.C_drewN ?_ _) | (with_reducible refine Kd.C_drew ?_))); (case side2 => exact (Kd.R_reads' HO_7.out).2.1); rintro e w42 ⟨v687, rfl, ho0, hb⟩; have n0_ := Aside0.mk (Kd.R_below (by (with_reducible repeat (first | apply Kd.R_alloc | apply Kd.R_drewN | apply Kd.R_drew)); exact HO_7.out) hb); have n1_ := Aside0.mk (Kd.R_lower ho0 (below_size (by repeat (first | (with_reducible first | exact HB.out | apply below_alloc | apply pw_below_drewN | apply below_drew1 | refine below_set ?_ (IsS93.ge HI680.out)) | exact HB.out)))); have n2_ := Aside0.mk (IsS93.below (by repeat (first | (with_reducible first | exact HI680.out | apply IsS93.alloc | apply IsS93.drewN | apply IsS93.drew | apply IsS93.set_0 | apply IsS93.set_1 | apply IsS93.set_2) | exact HI680.out)) hb); have n3_ := Aside0.mk (below_step (by repeat (first | (with_reducible first | exact HB.out | apply below_alloc | apply pw_below_drewN | apply below_drew1 | refine below_set ?_ (IsS93.ge HI680.out)) | exact HB.out)) hb); clear HO_7; clear HI680; clear HB; have HO_7 := n0_; have HO688 := n1_; have HI680 := n2_; have HB := n3_; clear n0_ n1_ n2_ n3_; (try clear hb); (try clear hb2); (try clear hk); (try clear hi); (try clear ho0))); try go_wp2_with (first | (go_at_call 86; (with_reducible refine (bonsairef03_Reader_Left.calls gb680 x681000_1 x681001_1 x681002_1 t681 t682 t683 t684 w _ ?side1 ?side2 A6.out).mono ?_); (case side1 => repeat (first | (with_reducible first | exact HI680.out | apply IsS93.alloc | apply IsS93.drewN | apply IsS93.drew | apply IsS93.set_0 | apply IsS93.set_1 | apply IsS93.set_2) | exact HI680.out)); (case side2 => repeat (first | (with_reducible first | exact HB.out | apply below_alloc | apply pw_below_drewN | apply below_drew1 | refine below_set ?_ (IsS93.ge HI680.out)) | exact HB.out)); rintro e w40 ⟨rfl, hi, hb, hk⟩; have n0_ := Aside0.mk (Kd.R_mono (Kd.R_keep (IsS93.apart (show IsS93 w _ gb680 x681000_1 x681001_1 x681002_1 from by repeat (first | (with_reducible first | exact HI680.out | apply IsS93.alloc | apply IsS93.drewN | apply IsS93.drew | apply IsS93.set_0 | apply IsS93.set_1 | apply IsS93.set_2) | exact HI680.out)) (by (with_reducible repeat (first | apply Kd.R_alloc | apply Kd.R_drewN | apply Kd.R_drew)); exact HO_7.out) (by decide)) hk (fun _ h => h.2)) (fun _ h => h.1)); have n1_ := Aside0.mk (hb); have n2_ := Aside0.mk (hi); clear HO_7; clear HB; clear HI680; have HO_7 := n0_; have HB := n1_; have HI680 := n2_; clear n0_ n1_ n2_; (try clear hb); (try clear hb2); (try clear hk); (try clear hi); obtain ⟨Ao41, co41, eo41⟩ := Kd.R_slice HO_7.out; subst eo41) | (go_at_call 53; (with_reducible refine (bonsairef07_Spread.calls k1 _ _ x7_1 a1 t685 true _ ?side1 ?side2 A34.out).mono ?_); (case side1 => repeat (first | exact (Kd.R_reads' HO_7.out).2.2 | (with_reducible refine Kd.C_alloc ?_ _) | (with_reducible refine Kd.C_drewN ?_ _) | (with_reducible refine Kd.C_drew ?_))); (case side2 => exact (Kd.R_reads' HO_7.out).2.1); rintro e w42 ⟨v687, rfl, ho0, hb⟩; have n0_ := Aside0.mk (Kd.R_below (by (with_reducible repeat (first | apply Kd.R_alloc | apply Kd.R_drewN | apply Kd.R_drew)); exact HO_7.out) hb); have n1_ := Aside0.mk (Kd.R_lower ho0 (below_size (by repeat (first | (with_reducible first | exact HB.out | apply below_alloc | apply pw_below_drewN | apply below_drew1 | refine below_set ?_ (IsS93.ge HI680.out)) | exact HB.out)))); have n2_ := Aside0.mk (IsS93.below (by repeat (first | (with_reducible first | exact HI680.out | apply IsS93.alloc | apply IsS93.drewN | apply IsS93.drew | apply IsS93.set_0 | apply IsS93.set_1 | apply IsS93.set_2) | exact HI680.out)) hb); have n3_ := Aside0.mk (below_step (by repeat (first | (with_reducible first | exact HB.out | apply below_alloc | apply pw_below_drewN | apply below_drew1 | refine below_set ?_ (IsS93.ge HI680.out)) | exact HB.out)) hb); clear HO_7; clear HI680; clear HB; have HO_7 := n0_; have HO688 := n1_; have HI680 := n2_; have HB := n3_; clear n0_ n1_ n2_ n3_; (try clear hb); (try clear hb2); (try clear hk); (try clear hi); (try clear ho0))))
                go_ret2
                exact ⟨_, by first | rfl | (simp [errW_none, errW_some] <;> rfl) | (simp [*, errW_none, errW_some] <;> rfl), by (with_reducible repeat (first | apply Kd.R_alloc | apply Kd.R_drewN | apply Kd.R_drew)); exact HO688.out, by repeat (first | (with_reducible first | exact HB.out | apply below_alloc | apply pw_below_drewN | apply below_drew1 | refine below_set ?_ (IsS93.ge HI680.out)) | exact HB.out)⟩
            · replace c35 := Bool.eq_false_iff.mpr c35
              subst c35
              have H1 : (some (([] : List Bool), 5)) = some (r1, r2) := by rw [if_neg (show ¬ (false = true) by decide)] at H; exact H
              clear H
              have H := H1
              clear H1
              simp only [Option.some.injEq, Prod.mk.injEq] at H
              obtain ⟨rfl, rfl⟩ := H
              go_wp2_with (first | (go_at_call 86; (with_reducible refine (bonsairef03_Reader_Left.calls gb680 x681000_1 x681001_1 x681002_1 t681 t682 t683 t684 w _ ?side1 ?side2 A6.out).mono ?_); (case side1 => repeat (first | (with_reducible first | exact HI680.out | apply IsS93.alloc | apply IsS93.drewN | apply IsS93.drew | apply IsS93.set_0 | apply IsS93.set_1 | apply IsS93.set_2) | exact HI680.out)); (case side2 => repeat (first | (with_reducible first | exact HB.out | apply below_alloc | apply pw_below_drewN | apply below_drew1 | refine below_set ?_ (IsS93.ge HI680.out)) | exact HB.out)); rintro e w43 ⟨rfl, hi, hb, hk⟩; have n0_ := Aside0.mk (Kd.R_mono (Kd.R_keep (IsS93.apart (show IsS93 w _ gb680 x681000_1 x681001_1 x681002_1 from by repeat (first | (with_reducible first | exact HI680.out | apply IsS93.alloc | apply IsS93.drewN | apply IsS93.drew | apply IsS93.set_0 | apply IsS93.set_1 | apply IsS93.set_2) | exact HI680.out)) (by (with_reducible repeat (first | apply Kd.R_alloc | apply Kd.R_drewN | apply Kd.R_drew)); exact HO_7.out) (by decide)) hk (fun _ h => h.2)) (fun _ h => h.1)); have n1_ := Aside0.mk (hb); have n2_ := Aside0.mk (hi); clear HO_7; clear HB; clear HI680; have HO_7 := n0_; have HB := n1_; have HI680 := n2_; clear n0_ n1_ n2_; (try clear hb); (try clear hb2); (try clear hk); (try clear hi); obtain ⟨Ao44, co44, eo44⟩ := Kd.R_slice HO_7.out; subst eo44) | (go_at_call 53; (with_reducible refine (bonsairef07_Spread.calls k1 _ _ x7_1 a1 t685 false _ ?side1 ?side2 A34.out).mono ?_); (case side1 => repeat (first | exact (Kd.R_reads' HO_7.out).2.2 | (with_reducible refine Kd.C_alloc ?_ _) | (with_reducible refine Kd.C_drewN ?_ _) | (with_reducible refine Kd.C_drew ?_))); (case side2 => exact (Kd.R_reads' HO_7.out).2.1); rintro e w45 ⟨v687, rfl, ho0, hb⟩; have n0_ := Aside0.mk (Kd.R_below (by (with_reducible repeat (first | apply Kd.R_alloc | apply Kd.R_drewN | apply Kd.R_drew)); exact HO_7.out) hb); have n1_ := Aside0.mk (Kd.R_lower ho0 (below_size (by repeat (first | (with_reducible first | exact HB.out | apply below_alloc | apply pw_below_drewN | apply below_drew1 | refine below_set ?_ (IsS93.ge HI680.out)) | exact HB.out)))); have n2_ := Aside0.mk (IsS93.below (by repeat (first | (with_reducible first | exact HI680.out | apply IsS93.alloc | apply IsS93.drewN | apply IsS93.drew | apply IsS93.set_0 | apply IsS93.set_1 | apply IsS93.set_2) | exact HI680.out)) hb); have n3_ := Aside0.mk (below_step (by repeat (first | (with_reducible first | exact HB.out | apply below_alloc | apply pw_below_drewN | apply below_drew1 | refine below_set ?_ (IsS93.ge HI680.out)) | exact HB.out)) hb); clear HO_7; clear HI680; clear HB; have HO_7 := n0_; have HO688 := n1_; have HI680 := n2_; have HB := n3_; clear n0_ n1_ n2_ n3_; (try clear hb); (try clear hb2); (try clear hk); (try clear hi); (try clear ho0)))
              repeat (go_quiet (first | (go_at_call 86; (with_reducible refine (bonsairef03_Reader_Left.calls gb680 x681000_1 x681001_1 x681002_1 t681 t682 t683 t684 w _ ?side1 ?side2 A6.out).mono ?_); (case side1 => repeat (first | (with_reducible first | exact HI680.out | apply IsS93.alloc | apply IsS93.drewN | apply IsS93.drew | apply IsS93.set_0 | apply IsS93.set_1 | apply IsS93.set_2) | exact HI680.out)); (case side2 => repeat (first | (with_reducible first | exact HB.out | apply below_alloc | apply pw_below_drewN | apply below_drew1 | refine below_set ?_ (IsS93.ge HI680.out)) | exact HB.out)); rintro e w43 ⟨rfl, hi, hb, hk⟩; have n0_ := Aside0.mk (Kd.R_mono (Kd.R_keep (IsS93.apart (show IsS93 w _ gb680 x681000_1 x681001_1 x681002_1 from by repeat (first | (with_reducible first | exact HI680.out | apply IsS93.alloc | apply IsS93.drewN | apply IsS93.drew | apply IsS93.set_0 | apply IsS93.set_1 | apply IsS93.set_2) | exact HI680.out)) (by (with_reducible repeat (first | apply Kd.R_alloc | apply Kd.R_drewN | apply Kd.R_drew)); exact HO_7.out) (by decide)) hk (fun _ h => h.2)) (fun _ h => h.1)); have n1_ := Aside0.mk (hb); have n2_ := Aside0.mk (hi); clear HO_7; clear HB; clear HI680; have HO_7 := n0_; have HB := n1_; have HI680 := n2_; clear n0_ n1_ n2_; (try clear hb); (try clear hb2); (try clear hk); (try clear hi); obtain ⟨Ao44, co44, eo44⟩ := Kd.R_slice HO_7.out; subst eo44) | (go_at_call 53; (with_reducible refine (bonsairef07_Spread.calls k1 _ _ x7_1 a1 t685 false _ ?side1 ?side2 A34.out).mono ?_); (case side1 => repeat (first | exact (Kd.R_reads' HO_7.out).2.2 | (with_reducible refine Kd.C_alloc ?_ _) | (with_reducible refine Kd.C_drewN ?_ _) | (with_reducible refine Kd.C_drew ?_))); (case side2 => exact (Kd.R_reads' HO_7.out).2.1); rintro e w45 ⟨v687, rfl, ho0, hb⟩; have n0_ := Aside0.mk (Kd.R_below (by (with_reducible repeat (first | apply Kd.R_alloc | apply Kd.R_drewN | apply Kd.R_drew)); exact HO_7.out) hb); have n1_ := Aside0.mk (Kd.R_lower ho0 (below_size (by repeat (first | (with_reducible first | exact HB.out | apply below_alloc | apply pw_below_drewN | apply below_drew1 | refine below_set ?_ (IsS93.ge HI680.out)) | exact HB.out)))); have n2_ := Aside0.mk (IsS93.below (by repeat (first | (with_reducible first | exact HI680.out | apply IsS93.alloc | apply IsS93.drewN | apply IsS93.drew | apply IsS93.set_0 | apply IsS93.set_1 | apply IsS93.set_2) | exact HI680.out)) hb); have n3_ := Aside0.mk (below_step (by repeat (first | (with_reducible first | exact HB.out | apply below_alloc | apply pw_below_drewN | apply below_drew1 | refine below_set ?_ (IsS93.ge HI680.out)) | exact HB.out)) hb); clear HO_7; clear HI680; clear HB; have HO_7 := n0_; have HO688 := n1_; have HI680 := n2_; have HB := n3_; clear n0_ n1_ n2_ n3_; (try clear hb); (try clear hb2); (try clear hk); (try clear hi); (try clear ho0))); try go_wp2_with (first | (go_at_call 86; (with_reducible refine (bonsairef03_Reader_Left.calls gb680 x681000_1 x681001_1 x681002_1 t681 t682 t683 t684 w _ ?side1 ?side2 A6.out).mono ?_); (case side1 => repeat (first | (with_reducible first | exact HI680.out | apply IsS93.alloc | apply IsS93.drewN | apply IsS93.drew | apply IsS93.set_0 | apply IsS93.set_1 | apply IsS93.set_2) | exact HI680.out)); (case side2 => repeat (first | (with_reducible first | exact HB.out | apply below_alloc | apply pw_below_drewN | apply below_drew1 | refine below_set ?_ (IsS93.ge HI680.out)) | exact HB.out)); rintro e w43 ⟨rfl, hi, hb, hk⟩; have n0_ := Aside0.mk (Kd.R_mono (Kd.R_keep (IsS93.apart (show IsS93 w _ gb680 x681000_1 x681001_1 x681002_1 from by repeat (first | (with_reducible first | exact HI680.out | apply IsS93.alloc | apply IsS93.drewN | apply IsS93.drew | apply IsS93.set_0 | apply IsS93.set_1 | apply IsS93.set_2) | exact HI680.out)) (by (with_reducible repeat (first | apply Kd.R_alloc | apply Kd.R_drewN | apply Kd.R_drew)); exact HO_7.out) (by decide)) hk (fun _ h => h.2)) (fun _ h => h.1)); have n1_ := Aside0.mk (hb); have n2_ := Aside0.mk (hi); clear HO_7; clear HB; clear HI680; have HO_7 := n0_; have HB := n1_; have HI680 := n2_; clear n0_ n1_ n2_; (try clear hb); (try clear hb2); (try clear hk); (try clear hi); obtain ⟨Ao44, co44, eo44⟩ := Kd.R_slice HO_7.out; subst eo44) | (go_at_call 53; (with_reducible refine (bonsairef07_Spread.calls k1 _ _ x7_1 a1 t685 false _ ?side1 ?side2 A34.out).mono ?_); (case side1 => repeat (first | exact (Kd.R_reads' HO_7.out).2.2 | (with_reducible refine Kd.C_alloc ?_ _) | (with_reducible refine Kd.C_drewN ?_ _) | (with_reducible refine Kd.C_drew ?_))); (case side2 => exact (Kd.R_reads' HO_7.out).2.1); rintro e w45 ⟨v687, rfl, ho0, hb⟩; have n0_ := Aside0.mk (Kd.R_below (by (with_reducible repeat (first | apply Kd.R_alloc | apply Kd.R_drewN | apply Kd.R_drew)); exact HO_7.out) hb); have n1_ := Aside0.mk (Kd.R_lower ho0 (below_size (by repeat (first | (with_reducible first | exact HB.out | apply below_alloc | apply pw_below_drewN | apply below_drew1 | refine below_set ?_ (IsS93.ge HI680.out)) | exact HB.out)))); have n2_ := Aside0.mk (IsS93.below (by repeat (first | (with_reducible first | exact HI680.out | apply IsS93.alloc | apply IsS93.drewN | apply IsS93.drew | apply IsS93.set_0 | apply IsS93.set_1 | apply IsS93.set_2) | exact HI680.out)) hb); have n3_ := Aside0.mk (below_step (by repeat (first | (with_reducible first | exact HB.out | apply below_alloc | apply pw_below_drewN | apply below_drew1 | refine below_set ?_ (IsS93.ge HI680.out)) | exact HB.out)) hb); clear HO_7; clear HI680; clear HB; have HO_7 := n0_; have HO688 := n1_; have HI680 := n2_; have HB := n3_; clear n0_ n1_ n2_ n3_; (try clear hb); (try clear hb2); (try clear hk); (try clear hi); (try clear ho0))))
              go_ret2
              exact ⟨_, by first | rfl | (simp [errW_none, errW_some] <;> rfl) | (simp [*, errW_none, errW_some] <;> rfl), by first | exact Kd.R_nil _ _ _ _ _ | exact Kd.N_nil _ _ _ _ _ | exact Kd.V_nil _ _ _ _ _ | exact Kd.Q_nil _ _ _ _ _ | exact Kd.S_nil _ _ _ _ _, by repeat (first | (with_reducible first | exact HB.out | apply below_alloc | apply pw_below_drewN | apply below_drew1 | refine below_set ?_ (IsS93.ge HI680.out)) | exact HB.out)⟩
def bonsailaw07_FlagsReads.f (k : Nat) (a0 : ByteArray) (a1 : Int) : Option (Bool) := if (a0.size : Int) > 500 then ((bonsailaw07_live.f k).bind fun t699 => (some t699)) else ((flags_Decode.f k a0 a1).bind fun bt700 => ((bonsairef07_Decode.f k a0 a1).bind fun bt704 => ((bonsairef07_Same.f k bt700.1 bt704.1).bind fun t708 => (if t708 = true then (if bt700.2 = bt704.2 then ((bonsailaw07_live.f k).bind fun t709 => (some t709)) else (none)) else (none)))))
set_option maxHeartbeats 8000000 in
set_option maxRecDepth 100000 in
theorem bonsailaw07_FlagsReads.calls (k : Nat) (a0 : ByteArray) (a1 : Int) (r : Bool) (w : World) (h : bonsailaw07_FlagsReads.f k a0 a1 = some r) :
    Calls Try.prog 15 #[.string a0, .int .i64 a1] w fun e w' => e = .returned (.bool r) ∧ Below w.heap.size w w' := by
  have HB := Aside0.mk (Below.refl w.heap.size w)
  have H : (if (a0.size : Int) > 500 then ((bonsailaw07_live.f k).bind fun t699 => (some t699)) else ((flags_Decode.f k a0 a1).bind fun bt700 => ((bonsairef07_Decode.f k a0 a1).bind fun bt704 => ((bonsairef07_Same.f k bt700.1 bt704.1).bind fun t708 => (if t708 = true then (if bt700.2 = bt704.2 then ((bonsailaw07_live.f k).bind fun t709 => (some t709)) else (none)) else (none)))))) = some r := h
  clear h
  by_cases c3 : (a0.size : Int) > 500
  · rw [if_pos c3] at H
    have c3b0 : decide (500 < (a0.size : Int)) = true := decide_eq_true c3
    have c3b1 : decide (500 < a0.size) = true := decide_eq_true (by omega)
    clear c3
    replace H := Option.bind_eq_some_iff.mp H
    obtain ⟨t699, A40, H⟩ := H
    replace H : (some t699) = some r := H
    have A4 := Aside0.mk A40
    clear A40
    obtain rfl := Option.some.inj H
    go_enter Try.func15, Try.ntmps15
    go_wp2_with (first | ((with_reducible refine gate_callee (f := 51) rfl ?_); refine goesL_ (some 12) rfl rfl Try.func51 (by kernel_rfl) rfl #[] rfl (by (try simp only [List.map_toArray, List.map_cons, List.map_nil]); first | done | rfl | (simp only [List.length_drop, List.length_take]; rfl)) ?_; (with_reducible refine (bonsailaw07_live.calls k  t699 _ A4.out).mono ?_); rintro e w5 ⟨rfl, hb⟩; refine ⟨_, rfl, ?_⟩; have n0_ := Aside0.mk (below_step (by repeat (first | (with_reducible first | exact HB.out | apply below_alloc | apply pw_below_drewN | apply below_drew1) | exact HB.out)) hb); clear HB; have HB := n0_; clear n0_; (try clear hb); (try clear hb2); (try clear hk); (try clear hi)))
    go_ret
    exact ⟨by first | rfl | (simp [errW_none, errW_some] <;> rfl) | (simp [*, errW_none, errW_some] <;> rfl), by repeat (first | (with_reducible first | exact HB.out | apply below_alloc | apply pw_below_drewN | apply below_drew1) | exact HB.out)⟩
  · rw [if_neg c3] at H
    have c3b0 : decide (500 < (a0.size : Int)) = false := decide_eq_false c3
    have c3b1 : decide (500 < a0.size) = false := decide_eq_false (by omega)
    clear c3
    replace H := Option.bind_eq_some_iff.mp H
    obtain ⟨⟨t700, t701⟩, A60, H⟩ := H
    replace H : ((bonsairef07_Decode.f k a0 a1).bind fun bt704 => ((bonsairef07_Same.f k t700 bt704.1).bind fun t708 => (if t708 = true then (if t701 = bt704.2 then ((bonsailaw07_live.f k).bind fun t709 => (some t709)) else (none)) else (none)))) = some r := H
    have A6 := Aside0.mk A60
    clear A60
    replace H := Option.bind_eq_some_iff.mp H
    obtain ⟨⟨t704, t705⟩, A70, H⟩ := H
    replace H : ((bonsairef07_Same.f k t700 t704).bind fun t708 => (if t708 = true then (if t701 = t705 then ((bonsailaw07_live.f k).bind fun t709 => (some t709)) else (none)) else (none))) = some r := H
    have A7 := Aside0.mk A70
    clear A70
    replace H := Option.bind_eq_some_iff.mp H
    obtain ⟨t708, A80, H⟩ := H
    replace H : (if t708 = true then (if t701 = t705 then ((bonsailaw07_live.f k).bind fun t709 => (some t709)) else (none)) else (none)) = some r := H
    have A8 := Aside0.mk A80
    clear A80
    by_cases c9 : t708 = true
    · subst c9
      have H1 : (if t701 = t705 then ((bonsailaw07_live.f k).bind fun t709 => (some t709)) else (none)) = some r := by rw [if_pos rfl] at H; exact H
      clear H
      have H := H1
      clear H1
      by_cases c10 : t701 = t705
      · rw [if_pos c10] at H
        have c10b0 : (t701 == t705) = true := beq_iff_eq.mpr c10
        have c10b1 : (t701 != t705) = false := bne_eq_false_iff_eq.mpr c10
        clear c10
        replace H := Option.bind_eq_some_iff.mp H
        obtain ⟨t709, A110, H⟩ := H
        replace H : (some t709) = some r := H
        have A11 := Aside0.mk A110
        clear A110
        obtain rfl := Option.some.inj H
        go_enter Try.func15, Try.ntmps15
        go_wp2_with (first | ((with_reducible refine gate_callee (f := 62) rfl ?_); refine goesL_ (some 16) rfl rfl Try.func62 (by kernel_rfl) rfl #[.string a0, .int .i64 a1] rfl (by (try simp only [List.map_toArray, List.map_cons, List.map_nil]); first | done | rfl | (simp only [List.length_drop, List.length_take]; rfl)) ?_; (with_reducible refine (flags_Decode.calls k a0 a1 t700 t701 _ A6.out).mono ?_); rintro e w12 ⟨v702, rfl, ho0, hb⟩; refine ⟨_, rfl, ?_⟩; have n0_ := Aside0.mk (Kd.R_lower ho0 (below_size (by repeat (first | (with_reducible first | exact HB.out | apply below_alloc | apply pw_below_drewN | apply below_drew1) | exact HB.out)))); have n1_ := Aside0.mk (below_step (by repeat (first | (with_reducible first | exact HB.out | apply below_alloc | apply pw_below_drewN | apply below_drew1) | exact HB.out)) hb); clear HB; have HO703 := n0_; have HB := n1_; clear n0_ n1_; (try clear hb); (try clear hb2); (try clear hk); (try clear hi); (try clear ho0)) | ((with_reducible refine gate_callee (f := 63) rfl ?_); refine goesL_ (some 22) rfl rfl Try.func63 (by kernel_rfl) rfl #[.string a0, .int .i64 a1] rfl (by (try simp only [List.map_toArray, List.map_cons, List.map_nil]); first | done | rfl | (simp only [List.length_drop, List.length_take]; rfl)) ?_; (with_reducible refine (bonsairef07_Decode.calls k a0 a1 t704 t705 _ A7.out).mono ?_); rintro e w13 ⟨v706, rfl, ho0, hb⟩; refine ⟨_, rfl, ?_⟩; have n0_ := Aside0.mk (Kd.R_elder' (by (with_reducible repeat (first | apply Kd.R_alloc | apply Kd.R_drewN | apply Kd.R_drew)); exact HO703.out) (Kd.R_base ho0) hb); have n1_ := Aside0.mk (Kd.R_lower (Kd.R_new' ho0 (Kd.R_lt (by (with_reducible repeat (first | apply Kd.R_alloc | apply Kd.R_drewN | apply Kd.R_drew)); exact HO703.out))) (below_size (by repeat (first | (with_reducible first | exact HB.out | apply below_alloc | apply pw_below_drewN | apply below_drew1) | exact HB.out)))); have n2_ := Aside0.mk (below_step (by repeat (first | (with_reducible first | exact HB.out | apply below_alloc | apply pw_below_drewN | apply below_drew1) | exact HB.out)) hb); clear HO703; clear HB; have HO703 := n0_; have HO707 := n1_; have HB := n2_; clear n0_ n1_ n2_; (try clear hb); (try clear hb2); (try clear hk); (try clear hi); (try clear ho0); obtain ⟨Ao14, co14, eo14⟩ := Kd.R_slice HO703.out; subst eo14; obtain ⟨Ao15, co15, eo15⟩ := Kd.R_slice HO707.out; subst eo15) | ((with_reducible refine gate_callee (f := 61) rfl ?_); refine goesL_ (some 27) rfl rfl Try.func61 (by kernel_rfl) rfl #[.slice Ao14 t700.length co14, .slice Ao15 t704.length co15] rfl (by (try simp only [List.map_toArray, List.map_cons, List.map_nil]); first | done | rfl | (simp only [List.length_drop, List.length_take]; rfl)) ?_; (with_reducible refine (bonsairef07_Same.calls k _ _ t700 _ _ t704 true _ ?side1 ?side2 ?side3 ?side4 A8.out).mono ?_); (case side1 => repeat (first | exact (Kd.R_reads' HO703.out).2.2 | (with_reducible refine Kd.C_alloc ?_ _) | (with_reducible refine Kd.C_drewN ?_ _) | (with_reducible refine Kd.C_drew ?_))); (case side2 => exact (Kd.R_reads' HO703.out).2.1); (case side3 => repeat (first | exact (Kd.R_reads' HO707.out).2.2 | (with_reducible refine Kd.C_alloc ?_ _) | (with_reducible refine Kd.C_drewN ?_ _) | (with_reducible refine Kd.C_drew ?_))); (case side4 => exact (Kd.R_reads' HO707.out).2.1); rintro e w' ⟨rfl, ⟨nd, rfl⟩⟩; refine ⟨_, rfl, ?_⟩) | (go_at_call 51; (with_reducible refine (bonsailaw07_live.calls k  t709 _ A11.out).mono ?_); rintro e w16 ⟨rfl, hb⟩; have n0_ := Aside0.mk (Kd.R_below (by (with_reducible repeat (first | apply Kd.R_alloc | apply Kd.R_drewN | apply Kd.R_drew)); exact HO703.out) hb); have n1_ := Aside0.mk (Kd.R_below (by (with_reducible repeat (first | apply Kd.R_alloc | apply Kd.R_drewN | apply Kd.R_drew)); exact HO707.out) hb); have n2_ := Aside0.mk (below_step (by repeat (first | (with_reducible first | exact HB.out | apply below_alloc | apply pw_below_drewN | apply below_drew1) | exact HB.out)) hb); clear HO703; clear HO707; clear HB; have HO703 := n0_; have HO707 := n1_; have HB := n2_; clear n0_ n1_ n2_; (try clear hb); (try clear hb2); (try clear hk); (try clear hi)))
        go_ret
        exact ⟨by first | rfl | (simp [errW_none, errW_some] <;> rfl) | (simp [*, errW_none, errW_some] <;> rfl), by repeat (first | (with_reducible first | exact HB.out | apply below_alloc | apply pw_below_drewN | apply below_drew1) | exact HB.out)⟩
      · rw [if_neg c10] at H
        exact absurd H (by simp)
    · replace c9 := Bool.eq_false_iff.mpr c9
      subst c9
      have H1 : (none) = some r := by rw [if_neg (show ¬ (false = true) by decide)] at H; exact H
      clear H
      have H := H1
      clear H1
      exact absurd H (by simp)
def bonsailaw07_FlagsReads.Pure : Prop := ∀ (a0 : ByteArray) (a1 : Int), a0.size ≤ 140737488351232 → (Lit.int .i64 a1).wf = true → ∃ k, bonsailaw07_FlagsReads.f k a0 a1 = some true
theorem bonsailaw07_FlagsReads.walk (P : bonsailaw07_FlagsReads.Pure) (a0 : ByteArray) (a1 : Int) (w : World) (w0 : a0.size ≤ 140737488351232) (w1 : (Lit.int .i64 a1).wf = true) :
    Calls Try.prog 15 #[.string a0, .int .i64 a1] w fun e w' => e = .returned (.bool true) ∧ Below w.heap.size w w' := by
  obtain ⟨k, h⟩ := P a0 a1 w0 w1
  refine (bonsailaw07_FlagsReads.calls k a0 a1 true w h).mono ?_
  rintro e w' ⟨rfl, hd⟩
  exact ⟨rfl, hd⟩
end Go.Proofs.Ytbgjoiccehiglaa.Print
end
section
namespace Go.Proofs.Ytbgjoiccehiglaa.LibU
open Go.RowKit Go.Proofs.Ytbgjoiccehiglaa.Print Go.Proofs.YtbgjoiccehiglaaW.PrintWords Go.Proofs.YtbgjoiccehiglaaW.PrintLast Go.Proofs.YtbgjoiccehiglaaW.PrintMore
def addR (acc : List S53) (x : Int) : List S53 :=
  match acc.getLast? with
  | some r => if r.f0 = x then acc.dropLast ++ [(⟨r.f0, r.f1 + 1⟩ : S53)] else acc ++ [(⟨x, 1⟩ : S53)]
  | none => [(⟨x, 1⟩ : S53)]
theorem addR_snoc (a : List S53) (r : S53) (x : Int) : addR (a ++ [r]) x = if r.f0 = x then a ++ [(⟨r.f0, r.f1 + 1⟩ : S53)] else a ++ [r] ++ [(⟨x, 1⟩ : S53)] := by
  unfold addR
  simp
def runs (l : List Int) : List S53 := l.foldl addR []
def spread (rs : List S53) : List Int := rs.flatMap fun r => List.replicate r.f1.toNat r.f0
theorem spread_snoc (a : List S53) (r : S53) : spread (a ++ [r]) = spread a ++ List.replicate r.f1.toNat r.f0 := by simp [spread]
inductive MayR : List S53 → Prop
  | nil : MayR []
  | one (r : S53) (h : 1 ≤ r.f1) : MayR [r]
  | snoc (a : List S53) (q r : S53) (h : MayR (a ++ [q])) (h1 : 1 ≤ r.f1) (hne : q.f0 ≠ r.f0) : MayR (a ++ [q] ++ [r])
theorem snoc_cases {α : Type} (l : List α) : l = [] ∨ ∃ a x, l = a ++ [x] := by
  rcases List.eq_nil_or_concat l with h | ⟨a, x, h⟩
  · exact .inl h
  · exact .inr ⟨a, x, by simpa using h⟩
theorem snoc_inj {α : Type} {a b : List α} {x y : α} (h : a ++ [x] = b ++ [y]) : a = b ∧ x = y := by
  have := List.append_inj' h rfl
  simpa using this
theorem MayR.last {a : List S53} {r : S53} (h : MayR (a ++ [r])) : 1 ≤ r.f1 := by
  generalize hl : a ++ [r] = l at h
  cases h with
  | nil => simp at hl
  | one q hq => obtain ⟨_, rfl⟩ := snoc_inj (b := []) hl; exact hq
  | snoc b q s h h1 hne => obtain ⟨_, rfl⟩ := snoc_inj hl; exact h1
theorem MayR.init {a : List S53} {r : S53} (h : MayR (a ++ [r])) : MayR a := by
  generalize hl : a ++ [r] = l at h
  cases h with
  | nil => simp at hl
  | one q hq => obtain ⟨rfl, _⟩ := snoc_inj (b := []) hl; exact .nil
  | snoc b q s h h1 hne => obtain ⟨rfl, _⟩ := snoc_inj hl; exact h
theorem MayR.ne {a : List S53} {q r : S53} (h : MayR (a ++ [q] ++ [r])) : q.f0 ≠ r.f0 := by
  generalize hl : a ++ [q] ++ [r] = l at h
  cases h with
  | nil => simp at hl
  | one s hs => have := congrArg List.length hl; simp at this
  | snoc b q' s h h1 hne =>
    obtain ⟨e1, rfl⟩ := snoc_inj hl
    obtain ⟨_, rfl⟩ := snoc_inj e1
    exact hne
theorem MayR.grow {a : List S53} {r : S53} (h : MayR (a ++ [r])) (n : Int) (hn : 1 ≤ n) : MayR (a ++ [(⟨r.f0, n⟩ : S53)]) := by
  rcases snoc_cases a with rfl | ⟨b, q, rfl⟩
  · exact .one _ hn
  · exact .snoc _ _ _ h.init hn h.ne
theorem MayR.add {acc : List S53} (h : MayR acc) (x : Int) : MayR (addR acc x) := by
  rcases snoc_cases acc with rfl | ⟨a, r, rfl⟩
  · exact .one _ (Int.le_refl 1)
  · rw [addR_snoc]
    split
    · exact h.grow _ (by have := h.last; omega)
    · exact .snoc _ _ _ h (Int.le_refl 1) (by assumption)
theorem runs_rep (a : List S53) (x : Int) (h : a = [] ∨ ∃ b q, a = b ++ [q] ∧ q.f0 ≠ x) : ∀ n : Nat, (List.replicate (n + 1) x).foldl addR a = a ++ [(⟨x, (n : Int) + 1⟩ : S53)]
  | 0 => by
    rcases h with rfl | ⟨b, q, rfl, hq⟩
    · rfl
    · show addR (b ++ [q]) x = _
      rw [addR_snoc, if_neg hq]; rfl
  | n + 1 => by
    rw [List.replicate_succ', List.foldl_append, runs_rep a x h n]
    show addR _ x = _
    rw [addR_snoc, if_pos rfl]
    simp
theorem runs_spread {rs : List S53} (h : MayR rs) : runs (spread rs) = rs := by
  induction h with
  | nil => rfl
  | one r h =>
    have := runs_rep [] r.f0 (.inl rfl) (r.f1.toNat - 1)
    rw [show r.f1.toNat - 1 + 1 = r.f1.toNat by omega, show (((r.f1.toNat - 1 : Nat) : Int) + 1) = r.f1 by omega] at this
    simpa [runs, spread] using this
  | snoc a q r h h1 hne ih =>
    have := runs_rep (a ++ [q]) r.f0 (.inr ⟨a, q, rfl, hne⟩) (r.f1.toNat - 1)
    rw [show r.f1.toNat - 1 + 1 = r.f1.toNat by omega, show (((r.f1.toNat - 1 : Nat) : Int) + 1) = r.f1 by omega] at this
    rw [spread_snoc]
    unfold runs at ih ⊢
    rw [List.foldl_append, ih, this]
theorem len_spread {rs : List S53} (h : MayR rs) : rs.length ≤ (spread rs).length := by
  induction h with
  | nil => simp
  | one r h => simp [spread]; omega
  | snoc a q r h h1 hne ih => rw [spread_snoc, List.length_append, List.length_append (bs := List.replicate _ _), List.length_replicate]; simp only [List.length_cons, List.length_nil]; omega
end Go.Proofs.Ytbgjoiccehiglaa.LibU
end
section
namespace Go.Proofs.Ytbgjoiccehiglaa.Print
open Go.RowKit Go.Proofs.YtbgjoiccehiglaaW.PrintWords Go.Proofs.YtbgjoiccehiglaaW.PrintLast Go.Proofs.YtbgjoiccehiglaaW.PrintMore
attribute [local go_sem] max2_int min2_int max_two min_two max_three min_three max_four min_four
set_option linter.unusedVariables false
set_option linter.unusedSimpArgs false
theorem eqA53 (d : Nat) (w : World) (x0 y0 : Int) (x1 y1 : Int) :
    (Op.equalIn (d + 2) 53 (.agg #[.int .u64 x0, .int .i64 x1]) (.agg #[.int .u64 y0, .int .i64 y1])).run Try.prog w = .ok (x0 == y0 && (x1 == y1)) w := by
  refine eqA_of Try.underlying53 (by kernel_rfl) ?_
  refine eqf_cons (by rfl) (by go_simp; rfl) (by go_simp; rfl) (by go_simp) ?_
  exact eqf_last (by rfl) (by go_simp; rfl) (by go_simp; rfl) (by go_simp)
end Go.Proofs.Ytbgjoiccehiglaa.Print
end
section
namespace Go.Proofs.Ytbgjoiccehiglaa.Print
open Go.RowKit Go.Proofs.YtbgjoiccehiglaaW.PrintWords Go.Proofs.YtbgjoiccehiglaaW.PrintLast Go.Proofs.YtbgjoiccehiglaaW.PrintMore
attribute [local go_sem] max2_int min2_int max_two min_two max_three min_three max_four min_four
set_option linter.unusedVariables false
set_option linter.unusedSimpArgs false
def runs_May.l0 : Nat → List (S53) → List (S53) → Int → Int → Option (Bool)
  | 0, _, _, _, _ => none
  | k + 1, x0, x5, x6, x7 => if x7 < x6 then (if 0 ≤ x7 then (if x7 < (x5.length : Int) then (if ((rd_T53 x5 x7).f1) < 1 then (some false) else (if x7 > 0 then (if 0 ≤ (wrap64 (x7 - 1)) then (if (wrap64 (x7 - 1)) < (x0.length : Int) then (if ((rd_T53 x0 (wrap64 (x7 - 1))).f0) = ((rd_T53 x5 x7).f0) then (some false) else (runs_May.l0 k x0 x5 x6 (wrap64 (x7 + 1)))) else (none)) else (none)) else (runs_May.l0 k x0 x5 x6 (wrap64 (x7 + 1))))) else (none)) else (none)) else (some true)
def runs_May.f (k : Nat) (l0 : List (S53)) : Option (Bool) := runs_May.l0 k l0 l0 (l0.length : Int) 0
def slices_Repeat_uint64_uint64.f (l0 : List Int) (a1 : Int) : Option (List Int) := if l0.length = 1 then (if 0 ≤ a1 ∧ a1 ≤ 1000000 then some (List.replicate a1.toNat (rd l0 0)) else none) else none
end Go.Proofs.Ytbgjoiccehiglaa.Print
end
section
namespace Go.Proofs.Ytbgjoiccehiglaa.Print
open Go.RowKit Go.Proofs.YtbgjoiccehiglaaW.PrintWords Go.Proofs.YtbgjoiccehiglaaW.PrintLast Go.Proofs.YtbgjoiccehiglaaW.PrintMore
attribute [local go_sem] max2_int min2_int max_two min_two max_three min_three max_four min_four
set_option linter.unusedVariables false
set_option linter.unusedSimpArgs false
attribute [local go_sem high] eqA53
mutual
def runs_Spread.j0 : Nat → List (S53) → Int → Bool → Option (List Int × Bool)
  | 0, _, _, _ => none
  | k + 1, x0, x1, x15 => if x15 = true then (some (([] : List Int), false)) else (runs_Spread.l0 k x1 ([] : List Int) x0 (x0.length : Int) 0)
def runs_Spread.l0 : Nat → Int → List Int → List (S53) → Int → Int → Option (List Int × Bool)
  | 0, _, _, _, _, _ => none
  | k + 1, x1, x6, x16, x17, x18 => if x18 < x17 then (if 0 ≤ x18 then (if x18 < (x16.length : Int) then (if ((rd_T53 x16 x18).f1) > (wrap64 (x1 - (x6.length : Int))) then (some (([] : List Int), false)) else ((slices_Repeat_uint64_uint64.f (([(rd_T53 x16 x18).f0] : List Int)) ((rd_T53 x16 x18).f1)).bind fun t275 => (if x6.length + t275.length < 17592186044416 then (runs_Spread.l0 k x1 (x6 ++ t275) x16 x17 (wrap64 (x18 + 1))) else (none)))) else (none)) else (none)) else (some (x6, true))
end
def runs_Spread.f (k : Nat) (l0 : List (S53)) (a1 : Int) : Option (List Int × Bool) := (runs_May.f k l0).bind fun t269 => (if t269 = true then (runs_Spread.j0 k l0 a1 (decide (a1 < 0))) else (runs_Spread.j0 k l0 a1 true))
end Go.Proofs.Ytbgjoiccehiglaa.Print
end
section
namespace Go.Proofs.Ytbgjoiccehiglaa.LibV
open Go.RowKit Go.Proofs.Ytbgjoiccehiglaa.Print Go.Proofs.YtbgjoiccehiglaaW.PrintWords Go.Proofs.YtbgjoiccehiglaaW.PrintLast Go.Proofs.YtbgjoiccehiglaaW.PrintMore Go.Proofs.Ytbgjoiccehiglaa.LibU
theorem w64 {n : Int} (h0 : -9223372036854775808 ≤ n) (h1 : n ≤ 9223372036854775807) : wrap64 n = n := by unfold wrap64; omega
theorem rd53_last (a : List S53) (r : S53) : rd_T53 (a ++ [r]) (a.length : Int) = r := by simp [rd_T53]
end Go.Proofs.Ytbgjoiccehiglaa.LibV
end
section
namespace Go.Proofs.Ytbgjoiccehiglaa.LibA
open Go.RowKit Go.Proofs.Ytbgjoiccehiglaa.Print Go.Proofs.YtbgjoiccehiglaaW.PrintWords Go.Proofs.YtbgjoiccehiglaaW.PrintLast
def SgAt (s : ByteArray) (i m : Int) : Prop :=
  (sgH (bt s i)).2.2.2 = true ∧ m = 1 + (sgH (bt s i)).1 ∧ i + m ≤ s.size ∧ sgR s (sgH (bt s i)).1.toNat (i + 1) (sgH (bt s i)).2.1 (sgH (bt s i)).2.2.1 = true
theorem SgAt.pos {s : ByteArray} {i m : Int} (h : SgAt s i m) : 1 ≤ m ∧ m ≤ 4 ∧ i + m ≤ s.size := by
  have := sgH_rest (bt s i)
  obtain ⟨_, rfl, h3, _⟩ := h
  omega
theorem SgAt.det {s : ByteArray} {i m m' : Int} (h : SgAt s i m) (h' : SgAt s i m') : m = m' := by
  rw [h.2.1, h'.2.1]
inductive Ch (s : ByteArray) : Nat → Int → Int → Prop
  | nil (i : Int) : Ch s 0 i i
  | cons {n : Nat} {i m j : Int} (h : SgAt s i m) (t : Ch s n (i + m) j) : Ch s (n + 1) i j
theorem Ch.size {s : ByteArray} {n : Nat} {i j : Int} (h : Ch s n i j) (hi : i ≤ s.size) : j ≤ s.size := by
  induction h with
  | nil => exact hi
  | cons h t ih => exact ih h.pos.2.2
theorem Ch.snoc {s : ByteArray} {n : Nat} {i j m : Int} (h : Ch s n i j) (hm : SgAt s j m) : Ch s (n + 1) i (j + m) := by
  induction h with
  | nil => exact .cons hm (.nil _)
  | cons h t ih => exact .cons h (ih hm)
theorem Ch.trans {s : ByteArray} {n n' : Nat} {i j k : Int} (h : Ch s n i j) (h' : Ch s n' j k) : Ch s (n + n') i k := by
  induction h with
  | nil => simpa using h'
  | cons h t ih => rw [show ∀ a b : Nat, a + 1 + b = (a + b) + 1 by omega]; exact .cons h (ih h')
theorem Ch.split {s : ByteArray} {n n' : Nat} {i j j' : Int} (h : Ch s n i j) (h' : Ch s n' i j') : (∃ c, n' = n + c ∧ Ch s c j j') ∨ (∃ c m, SgAt s j' m ∧ Ch s c (j' + m) j) := by
  induction h generalizing n' with
  | nil => exact .inl ⟨n', by omega, h'⟩
  | cons h t ih =>
    cases h' with
    | nil => exact .inr ⟨_, _, h, t⟩
    | cons h2 t2 =>
      have := h.det h2
      subst this
      rcases ih t2 with ⟨c, hc, hch⟩ | r
      · exact .inl ⟨c, by omega, hch⟩
      · exact .inr r
def Vld (s : ByteArray) : Prop := ∃ c, Ch s c 0 s.size
theorem bt_take {s : ByteArray} {n : Nat} (hn : n ≤ s.size) {d : Int} (h0 : 0 ≤ d) (h1 : d < n) : bt (s.extract 0 n) d = bt s d := by
  unfold bt
  rw [dif_pos (by rw [ByteArray.size_extract]; omega), dif_pos (by omega)]
  simp [ByteArray.getElem_extract]
theorem bt_drop {s : ByteArray} {a n : Nat} (hn : n ≤ s.size) {d : Int} (h0 : 0 ≤ d) (h1 : a + d < n) : bt (s.extract a n) d = bt s (a + d) := by
  unfold bt
  rw [dif_pos (by rw [ByteArray.size_extract]; omega), dif_pos (by omega)]
  have e : a + d.toNat = ((a : Int) + d).toNat := by omega
  simp only [ByteArray.getElem_extract, e]
theorem size_take {s : ByteArray} {n : Nat} (hn : n ≤ s.size) : (s.extract 0 n).size = n := by rw [ByteArray.size_extract]; omega
end Go.Proofs.Ytbgjoiccehiglaa.LibA
end
section
namespace Go.Proofs.Ytbgjoiccehiglaa.LibB
open Go.RowKit Go.Proofs.Ytbgjoiccehiglaa.Print Go.Proofs.YtbgjoiccehiglaaW.PrintWords Go.Proofs.YtbgjoiccehiglaaW.PrintLast Go.Proofs.YtbgjoiccehiglaaW.PrintMore Go.Proofs.Ytbgjoiccehiglaa.LibA
theorem w64 {n : Int} (h0 : -9223372036854775808 ≤ n) (h1 : n ≤ 9223372036854775807) : wrap64 n = n := by unfold wrap64; omega
noncomputable instance (s : ByteArray) : Decidable (Vld s) := Classical.propDecidable _
end Go.Proofs.Ytbgjoiccehiglaa.LibB
end
section
namespace Go.Proofs.Ytbgjoiccehiglaa.LibC
open Go.RowKit Go.Proofs.Ytbgjoiccehiglaa.Print Go.Proofs.YtbgjoiccehiglaaW.PrintWords Go.Proofs.YtbgjoiccehiglaaW.PrintLast Go.Proofs.YtbgjoiccehiglaaW.PrintMore Go.Proofs.Ytbgjoiccehiglaa.LibA Go.Proofs.Ytbgjoiccehiglaa.LibB
def putL : Nat → Int → List Int
  | 0, x => [x]
  | d + 1, x => if x ≥ 128 then (x % 128 + 128) :: putL d (x / 128) else [x]
theorem putL_length : ∀ (d : Nat) (x : Int), 1 ≤ (putL d x).length ∧ (putL d x).length ≤ d + 1
  | 0, x => by simp [putL]
  | d + 1, x => by
    have := putL_length d (x / 128)
    unfold putL
    split <;> simp <;> omega
end Go.Proofs.Ytbgjoiccehiglaa.LibC
end
section
namespace Go.Proofs.Ytbgjoiccehiglaa.LibD
open Go.RowKit Go.Proofs.Ytbgjoiccehiglaa.Print Go.Proofs.YtbgjoiccehiglaaW.PrintWords Go.Proofs.YtbgjoiccehiglaaW.PrintLast Go.Proofs.YtbgjoiccehiglaaW.PrintMore Go.Proofs.Ytbgjoiccehiglaa.LibA Go.Proofs.Ytbgjoiccehiglaa.LibB Go.Proofs.Ytbgjoiccehiglaa.LibC
def numRef (R : Int × Int × Int) (S : ByteArray) (at_ : Int) : Int × ByteArray × Int × Int := if R.1 = 0 then (R.2.1, S, at_ + R.2.2, 0) else (0, S, at_, R.1)
theorem num_l (S s : ByteArray) (a : Int) (ha : 0 ≤ a) (hS : S.size ≤ 140737488351232) (hs : (S.size : Int) = a + s.size) (hb : ∀ d : Int, 0 ≤ d → d < s.size → bt S (a + d) = bt s d) :
    ∀ (d : Nat) (i n : Int) (k : Nat), i + (d + 1 : Nat) = 10 → 0 ≤ i → i ≤ s.size → 0 ≤ n → n < 128 ^ i.toNat →
      bonsairef03_Reader_Num.l0 (3 * (d + 1) + k) n (128 ^ i.toNat) i S a 0 = some (numRef (numL s (d + 1) i n) S a)
  | d, i, n, k, hd, hi0, his, hn0, hn => by
    rw [show 3 * (d + 1) + k = (((3 * d + k) + 1) + 1) + 1 by omega]
    simp only [bonsairef03_Reader_Num.l0, bonsairef03_Reader_Num.j1, numL]
    rw [if_pos (by omega), w64 (show -9223372036854775808 ≤ a + i by omega) (by omega)]
    simp only [BEq.rfl, if_true]
    by_cases hlt : i < (s.size : Int)
    · rw [if_neg (by omega), if_pos (by omega), if_pos (by omega), if_pos hlt, hb i hi0 hlt]
      have hr := bt_range s i
      rw [pack_wraps_u64 _ hr.1 (by omega)]
      by_cases hok : (i < 9 ∨ bt s i ≤ 1) ∧ (i = 0 ∨ bt s i ≠ 0)
      · rw [if_pos hok]
        have hj : ∀ X : Bool, X = false → (bonsairef03_Reader_Num.j2 (3 * d + k + 1) n (128 ^ i.toNat) i (bt s i) X S a 0 = some (numRef (if bt s i < 128 then (0, n + bt s i % 128 * 128 ^ i.toNat, i + 1) else numL s d (i + 1) (n + bt s i % 128 * 128 ^ i.toNat)) S a)) := by
          rintro X rfl
          simp only [bonsairef03_Reader_Num.j2, Bool.false_eq_true, if_false]
          obtain ⟨_, h64⟩ := num_step i (bt s i) n hi0 (by omega) hr.1 hr.2 hok.1 hn0 hn
          have hm0 : 0 ≤ bt s i % 128 * 128 ^ i.toNat := Int.mul_nonneg (by omega) (by have := (pack_pow9 i (by omega)).2; omega)
          rw [Int.tmod_eq_emod_of_nonneg hr.1, pack_wraps_u64 (bt s i % 128 * 128 ^ i.toNat) hm0 (by omega), pack_wraps_u64 (n + _) (by omega) h64]
          by_cases hb1 : bt s i < 128
          · rw [if_pos hb1, if_pos hb1, w64 (show -9223372036854775808 ≤ a + i by omega) (by omega), w64 (show -9223372036854775808 ≤ a + i + 1 by omega) (by omega)]
            simp only [numRef, if_true]
            congr 4
            omega
          · rw [if_neg hb1, if_neg hb1]
            have h9 : i < 9 := by omega
            cases d with
            | zero => omega
            | succ d =>
              have hp : bt s i % 128 * 128 ^ i.toNat ≤ 127 * 128 ^ i.toNat := Int.mul_le_mul_of_nonneg_right (by omega) (by have := (pack_pow9 i (by omega)).2; omega)
              have he : (128 : Int) ^ (i + 1).toNat = 128 ^ i.toNat * 128 := by rw [show (i + 1).toNat = i.toNat + 1 by omega, Int.pow_succ]
              have h8 := pack_pow8 i (by omega)
              have hq := (pack_pow9 i (by omega)).2
              rw [pack_wraps_u64 (128 ^ i.toNat * 128) (by omega) (by omega), w64 (by omega) (by omega), ← he]
              exact num_l S s a ha hS hs hb d (i + 1) _ k (by omega) (by omega) (by omega) (by omega) (by omega)
        by_cases h9 : i = 9
        · rw [if_pos h9, if_neg (by omega), if_pos (by omega)]
          exact hj _ (by simp; omega)
        · rw [if_neg h9]
          by_cases h0 : i > 0
          · rw [if_pos h0]
            exact hj _ (by simp; omega)
          · rw [if_neg h0]
            exact hj _ rfl
      · rw [if_neg hok]
        have hj : ∀ X : Bool, X = true → bonsairef03_Reader_Num.j2 (3 * d + k + 1) n (128 ^ i.toNat) i (bt s i) X S a 0 = some (numRef (3, 0, 0) S a) := by
          rintro X rfl
          simp only [bonsairef03_Reader_Num.j2, if_true, numRef]
          rfl
        by_cases h9 : i = 9
        · rw [if_pos h9]
          by_cases hb1 : bt s i > 1
          · rw [if_pos hb1]
            exact hj _ rfl
          · rw [if_neg hb1, if_pos (by omega)]
            exact hj _ (by simp; omega)
        · rw [if_neg h9, if_pos (by omega)]
          exact hj _ (by simp; omega)
    · rw [if_pos (by omega), if_neg hlt]
      rfl
structure Sim (S : ByteArray) (a : Int) (r : ByteArray) : Prop where
  big : S.size ≤ 140737488351232
  lo : 0 ≤ a
  size : (S.size : Int) = a + r.size
  rest : r = S.extract a.toNat S.size
theorem Sim.byte {S r : ByteArray} {a : Int} (h : Sim S a r) (d : Int) (h0 : 0 ≤ d) (h1 : d < r.size) : bt S (a + d) = bt r d := by
  have := h.size
  have := h.lo
  rw [h.rest, bt_drop (Nat.le_refl _) h0 (by omega)]
  congr 1
  omega
theorem Sim.begin (S : ByteArray) (hS : S.size ≤ 140737488351232) (a : Int) (h0 : 0 ≤ a) (h1 : a ≤ S.size) : Sim S a (S.extract a.toNat S.size) :=
  ⟨hS, h0, by rw [ByteArray.size_extract]; omega, rfl⟩
theorem Sim.go {S r : ByteArray} {a : Int} (h : Sim S a r) (n : Int) (h0 : 0 ≤ n) (h1 : n ≤ r.size) : Sim S (a + n) (r.extract n.toNat r.size) := by
  have := h.size
  have := h.lo
  refine ⟨h.big, by omega, by rw [ByteArray.size_extract]; omega, ?_⟩
  conv => lhs; rw [h.rest]
  rw [ByteArray.extract_extract]
  congr 1
  · omega
  · rw [ByteArray.size_extract]; omega
theorem numL_is (s : ByteArray) : ∀ (d : Nat) (i n : Int), i + (d : Nat) = 10 → 0 ≤ i → i ≤ s.size → 0 ≤ n → n < 128 ^ i.toNat →
    ((numL s d i n).1 = 0 → 0 ≤ (numL s d i n).2.1 ∧ (numL s d i n).2.1 < 18446744073709551616 ∧ i < (numL s d i n).2.2 ∧ (numL s d i n).2.2 ≤ s.size) ∧ ((numL s d i n).1 = 0 ∨ (numL s d i n).1 = 2 ∨ (numL s d i n).1 = 3)
  | 0, i, n, _, _, _, _, _ => by simp [numL]
  | d + 1, i, n, hd, hi0, his, hn0, hn => by
    have hr := bt_range s i
    simp only [numL]
    by_cases hlt : i < (s.size : Int)
    · rw [if_pos hlt]
      by_cases hok : (i < 9 ∨ bt s i ≤ 1) ∧ (i = 0 ∨ bt s i ≠ 0)
      · rw [if_pos hok]
        obtain ⟨_, h64⟩ := num_step i (bt s i) n hi0 (by omega) hr.1 hr.2 hok.1 hn0 hn
        have hm0 : 0 ≤ bt s i % 128 * 128 ^ i.toNat := Int.mul_nonneg (by omega) (by have := (pack_pow9 i (by omega)).2; omega)
        by_cases hb1 : bt s i < 128
        · rw [if_pos hb1]
          exact ⟨fun _ => ⟨by show 0 ≤ n + _; omega, by show n + _ < _; omega, by show i < i + 1; omega, by show i + 1 ≤ _; omega⟩, .inl rfl⟩
        · rw [if_neg hb1]
          have hp : bt s i % 128 * 128 ^ i.toNat ≤ 127 * 128 ^ i.toNat := Int.mul_le_mul_of_nonneg_right (by omega) (by have := (pack_pow9 i (by omega)).2; omega)
          have he : (128 : Int) ^ (i + 1).toNat = 128 ^ i.toNat * 128 := by rw [show (i + 1).toNat = i.toNat + 1 by omega, Int.pow_succ]
          have := numL_is s d (i + 1) (n + bt s i % 128 * 128 ^ i.toNat) (by omega) (by omega) (by omega) (by omega) (by omega)
          exact ⟨fun h => by have := this.1 h; omega, this.2⟩
      · rw [if_neg hok]
        exact ⟨(fun h => by cases h), .inr (.inr rfl)⟩
    · rw [if_neg hlt]
      exact ⟨(fun h => by cases h), .inr (.inl rfl)⟩
theorem Sim.num {S r : ByteArray} {a : Int} (h : Sim S a r) (e : Int) : ∃ (v : Int) (r' : ByteArray) (e' a' : Int), pack_Reader_Num.f r e = some (v, r', e') ∧ (∀ k, 30 ≤ k → bonsairef03_Reader_Num.f k S a e = some (v, S, a', e')) ∧ Sim S a' r' ∧ 0 ≤ v ∧ v < 18446744073709551616 ∧
    (e ≠ 0 → v = 0 ∧ e' = e ∧ r' = r ∧ a' = a) ∧ (e = 0 → e' = 0 ∨ e' = 2 ∨ e' = 3) ∧ (e' = 0 → a < a') ∧ (e' ≠ 0 → v = 0 ∧ r' = r ∧ a' = a) := by
  have hsz := h.size
  have hlo := h.lo
  have hbig := h.big
  have hrs : r.size ≤ 9223372036854775000 := by omega
  by_cases he : e = 0
  · subst he
    have hk : ∀ k, 30 ≤ k → bonsairef03_Reader_Num.f k S a 0 = some (numRef (numL r 10 0 0) S a) := fun k hk => by
      have := num_l S r a h.lo h.big h.size h.byte 9 0 0 (k - 30) (by omega) (by omega) (by omega) (by omega) (by decide)
      rw [show 3 * (9 + 1) + (k - 30) = k by omega] at this
      exact this
    obtain ⟨hn1, hn2⟩ := numL_is r 10 0 0 (by omega) (by omega) (by omega) (by omega) (by decide)
    unfold pack_Reader_Num.f
    rw [if_pos hrs, if_pos rfl]
    by_cases hR : (numL r 10 0 0).1 = 0
    · have hn := hn1 hR
      refine ⟨_, _, _, a + (numL r 10 0 0).2.2, by rw [if_pos hR], fun k h' => by rw [hk k h']; unfold numRef; rw [if_pos hR], h.go _ (by omega) (by omega), hn.1, hn.2.1, fun h => absurd rfl h, fun _ => .inl rfl, fun _ => by omega, fun h => absurd rfl h⟩
    · refine ⟨_, _, _, a, by rw [if_neg hR], fun k h' => by rw [hk k h']; unfold numRef; rw [if_neg hR], h, by omega, by omega, fun h => absurd rfl h, fun _ => by omega, fun h => absurd h hR, fun _ => ⟨rfl, rfl, rfl⟩⟩
  · refine ⟨0, r, e, a, by unfold pack_Reader_Num.f; rw [if_pos hrs, if_neg he], fun k hk => ?_, h, by omega, by omega, fun _ => ⟨rfl, rfl, rfl, rfl⟩, fun h => absurd h he, fun h => absurd h he, fun _ => ⟨rfl, rfl, rfl⟩⟩
    obtain ⟨k, rfl⟩ : ∃ m, k = m + 2 := ⟨k - 2, by omega⟩
    unfold bonsairef03_Reader_Num.f
    simp only [bonsairef03_Reader_Num.l0, bonsairef03_Reader_Num.j1]
    rw [if_pos (by omega), if_neg (by simpa using he)]
theorem Sim.left {S r : ByteArray} {a : Int} (h : Sim S a r) (e : Int) : pack_Reader_Left.f r e = some ((r.size : Int), r, e) ∧ bonsairef03_Reader_Left.f S a e = some ((r.size : Int), S, a, e) := by
  have := h.size
  have := h.lo
  have := h.big
  exact ⟨rfl, by unfold bonsairef03_Reader_Left.f; rw [w64 (by omega) (by omega)]; congr 2; omega⟩
theorem Sim.take {S r : ByteArray} {a : Int} (h : Sim S a r) (n : Int) (h0 : 0 ≤ n) (h1 : n ≤ r.size) : pack_Reader_Take.f r 0 n = some (r.extract 0 n.toNat, r.extract n.toNat r.size, 0) ∧
    (∀ k, 1 ≤ k → bonsairef03_Reader_Take.f k S a 0 n = some (r.extract 0 n.toNat, S, a + n, 0)) := by
  have hsz := h.size
  have hlo := h.lo
  have hbig := h.big
  refine ⟨by unfold pack_Reader_Take.f; rw [if_pos rfl, if_pos ⟨h0, h1⟩], fun k hk => ?_⟩
  obtain ⟨k, rfl⟩ : ∃ m, k = m + 1 := ⟨k - 1, by omega⟩
  unfold bonsairef03_Reader_Take.f
  rw [if_pos rfl, if_neg (by omega), w64 (show -9223372036854775808 ≤ (S.size : Int) - a by omega) (by omega)]
  simp only [bonsairef03_Reader_Take.j0]
  rw [if_neg (by simp; omega), if_pos trivial, w64 (show -9223372036854775808 ≤ a + n by omega) (by omega), w64 (show -9223372036854775808 ≤ a + n - n by omega) (by omega), if_pos (by omega), if_pos (by omega), if_pos (by omega)]
  congr 2
  conv => rhs; rw [h.rest]
  rw [ByteArray.extract_extract]
  congr 1
  · omega
  · omega
end Go.Proofs.Ytbgjoiccehiglaa.LibD
end
namespace Go.Proofs.Ytbgjoiccehiglaa.Print
end Go.Proofs.Ytbgjoiccehiglaa.Print
section
namespace Go.Proofs.Ytbgjoiccehiglaa.LibE
open Go.RowKit Go.Proofs.Ytbgjoiccehiglaa.Print Go.Proofs.YtbgjoiccehiglaaW.PrintWords Go.Proofs.YtbgjoiccehiglaaW.PrintLast Go.Proofs.YtbgjoiccehiglaaW.PrintMore Go.Proofs.Ytbgjoiccehiglaa.LibA Go.Proofs.Ytbgjoiccehiglaa.LibB Go.Proofs.Ytbgjoiccehiglaa.LibC Go.Proofs.Ytbgjoiccehiglaa.LibD
def noText : ByteArray := ⟨#[]⟩
end Go.Proofs.Ytbgjoiccehiglaa.LibE
end
section
namespace Go.Proofs.Ytbgjoiccehiglaa.LibF
open Go.RowKit Go.Proofs.Ytbgjoiccehiglaa.Print Go.Proofs.YtbgjoiccehiglaaW.PrintWords Go.Proofs.YtbgjoiccehiglaaW.PrintLast Go.Proofs.YtbgjoiccehiglaaW.PrintMore Go.Proofs.Ytbgjoiccehiglaa.LibA Go.Proofs.Ytbgjoiccehiglaa.LibB
theorem bt_app_left {s t : ByteArray} {d : Int} (h0 : 0 ≤ d) (h1 : d < s.size) : bt (s ++ t) d = bt s d := by
  unfold bt
  rw [dif_pos (by rw [ByteArray.size_append]; omega), dif_pos (by omega)]
  rw [ByteArray.getElem_append_left (by omega)]
theorem bt_app_right {s t : ByteArray} {d : Int} (h0 : 0 ≤ d) (h1 : d < t.size) : bt (s ++ t) (s.size + d) = bt t d := by
  unfold bt
  rw [dif_pos (by rw [ByteArray.size_append]; omega), dif_pos (by omega)]
  rw [ByteArray.getElem_append_right (by omega)]
  have e : ((s.size : Int) + d).toNat - s.size = d.toNat := by omega
  simp only [e]
end Go.Proofs.Ytbgjoiccehiglaa.LibF
end
section
namespace Go.Proofs.Ytbgjoiccehiglaa.LibG
open Go.RowKit Go.Proofs.Ytbgjoiccehiglaa.Print Go.Proofs.YtbgjoiccehiglaaW.PrintWords Go.Proofs.YtbgjoiccehiglaaW.PrintLast Go.Proofs.YtbgjoiccehiglaaW.PrintMore Go.Proofs.Ytbgjoiccehiglaa.LibA Go.Proofs.Ytbgjoiccehiglaa.LibB Go.Proofs.Ytbgjoiccehiglaa.LibC Go.Proofs.Ytbgjoiccehiglaa.LibD Go.Proofs.Ytbgjoiccehiglaa.LibE Go.Proofs.Ytbgjoiccehiglaa.LibF
theorem ba_ext {a b : ByteArray} (hs : a.size = b.size) (h : ∀ i : Int, 0 ≤ i → i < a.size → bt a i = bt b i) : a = b := by
  apply ByteArray.ext
  apply Array.ext hs
  intro i h1 h2
  have := h i (by omega) (by have : i < a.size := h1; omega)
  unfold bt at this
  rw [dif_pos (by have : i < a.size := h1; omega), dif_pos (by have : i < b.size := h2; omega)] at this
  have e : (a[((i : Nat) : Int).toNat]'(by have : i < a.size := h1; omega)) = (b[((i : Nat) : Int).toNat]'(by have : i < b.size := h2; omega)) := UInt8.toNat_inj.mp (by omega)
  simpa [ByteArray.getElem_eq_getElem_data] using e
theorem bt_nums {xs : List Int} (hx : ∀ x ∈ xs, 0 ≤ x ∧ x < 256) {i : Nat} (hi : i < xs.length) : bt (strOfNums xs) i = xs[i] := by
  unfold bt
  rw [dif_pos (by rw [strOfNums_size]; omega)]
  have := hx xs[i] (List.getElem_mem hi)
  simp only [strOfNums, ByteArray.getElem_eq_getElem_data, Int.toNat_natCast, List.getElem_toArray, List.getElem_map]
  rw [UInt8.toNat_ofNat']
  omega
theorem putL_bytes : ∀ (d : Nat) (x : Int), 0 ≤ x → x < 128 ^ (d + 1) → ∀ y ∈ putL d x, 0 ≤ y ∧ y < 256
  | 0, x, h0, h1, y, hy => by
    simp [putL] at hy
    subst hy
    omega
  | d + 1, x, h0, h1, y, hy => by
    unfold putL at hy
    split at hy
    · rcases List.mem_cons.mp hy with rfl | hy
      · omega
      · refine putL_bytes d (x / 128) (by omega) ?_ y hy
        rw [Int.pow_succ] at h1
        exact Int.ediv_lt_of_lt_mul (by omega) h1
    · simp at hy
      subst hy
      omega
theorem pow_le {a b : Nat} (h : a ≤ b) : (128 : Int) ^ a ≤ 128 ^ b := by
  induction h with
  | refl => exact Int.le_refl _
  | @step m _ ih => rw [Int.pow_succ]; have : (0 : Int) < 128 ^ a := Int.pow_pos (by decide); omega
theorem pow_pos (n : Nat) : (0 : Int) < 128 ^ n := Int.pow_pos (by decide)
theorem num_put (s : ByteArray) : ∀ (d k : Nat) (i acc x : Int), 0 ≤ x → x < 128 ^ (d + 1) → 0 ≤ i → (i = 0 ∨ 0 < x) → x * 128 ^ i.toNat < 18446744073709551616 → d + 1 ≤ k → i + (putL d x).length ≤ s.size →
    (∀ j (hj : j < (putL d x).length), bt s (i + j) = (putL d x)[j]) → numL s k i acc = (0, acc + x * 128 ^ i.toNat, i + (putL d x).length)
  | d, 0, _, _, _, _, _, _, _, _, hk, _, _ => by omega
  | d, k + 1, i, acc, x, h0, h1, hi0, hx, h64, hk, hs, hb => by
    have hl := putL_length d x
    have hb0 := hb 0 (by omega)
    simp only [Int.add_zero, Int.natCast_zero] at hb0
    have h9 : i < 10 → (i < 9 ∨ x ≤ 1) := fun h => by
      by_cases h9 : i < 9
      · exact .inl h9
      · right
        have : i.toNat = 9 := by omega
        rw [this] at h64
        omega
    have h10 : ¬ i < 10 → x = 0 := fun h => by
      have h2 : (128 : Int) ^ 10 ≤ 128 ^ i.toNat := pow_le (by omega)
      by_cases hx0 : x = 0
      · exact hx0
      · have : 1 * 128 ^ i.toNat ≤ x * 128 ^ i.toNat := Int.mul_le_mul_of_nonneg_right (by omega) (by omega)
        omega
    simp only [numL]
    rw [if_pos (by omega)]
    by_cases hbig : x ≥ 128
    · have h8 : i < 9 := by
        by_cases h : i < 10
        · have := h9 h; omega
        · have := h10 h; omega
      cases d with
      | zero => simp at h1; omega
      | succ d =>
        have hp : putL (d + 1) x = (x % 128 + 128) :: putL d (x / 128) := by show (if x ≥ 128 then _ else _) = _; rw [if_pos hbig]
        have hc : bt s i = x % 128 + 128 := by rw [hb0]; simp only [hp, List.getElem_cons_zero]
        rw [hc, if_pos ⟨.inl h8, .inr (by omega)⟩, if_neg (by omega)]
        have e1 : (x % 128 + 128) % 128 = x % 128 := by omega
        have e2 : (128 : Int) ^ (i + 1).toNat = 128 ^ i.toNat * 128 := by rw [show (i + 1).toNat = i.toNat + 1 by omega, Int.pow_succ]
        have e3 : x * 128 ^ i.toNat = x % 128 * 128 ^ i.toNat + x / 128 * (128 ^ i.toNat * 128) := by
          have h := Int.emod_add_mul_ediv x 128
          conv => lhs; rw [← h]
          rw [Int.add_mul, Int.mul_comm 128 (x / 128), Int.mul_assoc, Int.mul_comm 128 (128 ^ i.toNat)]
        have hm : 0 ≤ x % 128 * 128 ^ i.toNat := Int.mul_nonneg (by omega) (by have := pow_pos i.toNat; omega)
        have := num_put s d k (i + 1) (acc + (x % 128 + 128) % 128 * 128 ^ i.toNat) (x / 128) (by omega) (by rw [Int.pow_succ] at h1; exact Int.ediv_lt_of_lt_mul (by omega) h1) (by omega) (.inr (by omega)) (by rw [e2]; omega) (by omega) (by rw [hp, List.length_cons] at hs; omega)
          (fun j hj => by
            have := hb (j + 1) (by rw [hp, List.length_cons]; omega)
            simp only [hp, List.getElem_cons_succ] at this
            rw [← this]
            congr 1
            omega)
        rw [this, hp, List.length_cons, e1, e2, e3]
        simp only [Prod.mk.injEq, true_and]
        constructor <;> omega
    · have hp : putL d x = [x] := by
        cases d with
        | zero => rfl
        | succ d => show (if x ≥ 128 then _ else _) = _; rw [if_neg hbig]
      have hc : bt s i = x := by rw [hb0]; simp only [hp, List.getElem_cons_zero]
      have hcond : i < 9 ∨ x ≤ 1 := by
        by_cases h : i < 10
        · exact h9 h
        · right; rw [h10 h]; decide
      rw [hc, if_pos ⟨hcond, by omega⟩, if_pos (by omega), hp, show x % 128 = x by omega]
      rfl
theorem num_canon (s : ByteArray) : ∀ (k : Nat) (i acc : Int), 0 ≤ i → i + (k + 1 : Nat) = 10 → (numL s (k + 1) i acc).1 = 0 →
    ∃ x : Int, 0 ≤ x ∧ x < 128 ^ (k + 1) ∧ (i = 0 ∨ 0 < x) ∧ (numL s (k + 1) i acc).2.1 = acc + x * 128 ^ i.toNat ∧ (numL s (k + 1) i acc).2.2 = i + (putL k x).length ∧ i + (putL k x).length ≤ s.size ∧ ∀ j (hj : j < (putL k x).length), bt s (i + j) = (putL k x)[j]
  | k, i, acc, hi, hk, h => by
    simp only [numL] at h ⊢
    have hr := bt_range s i
    by_cases hlt : i < (s.size : Int)
    · rw [if_pos hlt] at h ⊢
      by_cases hok : (i < 9 ∨ bt s i ≤ 1) ∧ (i = 0 ∨ bt s i ≠ 0)
      · rw [if_pos hok] at h ⊢
        by_cases hb : bt s i < 128
        · rw [if_pos hb] at h ⊢
          have hp : putL k (bt s i) = [bt s i] := by
            cases k with
            | zero => rfl
            | succ d => show (if bt s i ≥ 128 then _ else _) = _; rw [if_neg (by omega)]
          refine ⟨bt s i, hr.1, ?_, by omega, by rw [show bt s i % 128 = bt s i by omega], by rw [hp]; rfl, by rw [hp]; simp; omega, fun j hj => ?_⟩
          · have : (128 : Int) ^ 1 ≤ 128 ^ (k + 1) := pow_le (by omega)
            omega
          · simp only [hp, List.length_singleton] at hj ⊢
            have : j = 0 := by omega
            subst this
            simp
        · rw [if_neg hb] at h ⊢
          cases k with
          | zero => omega
          | succ k =>
            obtain ⟨x, h1, h2, h3, h4, h5, h6, h7⟩ := num_canon s k (i + 1) _ (by omega) (by omega) h
            have hx : 0 < x := by omega
            have hp : putL (k + 1) (x * 128 + bt s i % 128) = bt s i :: putL k x := by
              show (if x * 128 + bt s i % 128 ≥ 128 then ((x * 128 + bt s i % 128) % 128 + 128) :: putL k ((x * 128 + bt s i % 128) / 128) else _) = _
              rw [if_pos (by omega), show (x * 128 + bt s i % 128) / 128 = x by omega, show (x * 128 + bt s i % 128) % 128 + 128 = bt s i by omega]
            refine ⟨x * 128 + bt s i % 128, by omega, by rw [Int.pow_succ]; omega, .inr (by omega), ?_, ?_, ?_, ?_⟩
            · rw [h4, show (i + 1).toNat = i.toNat + 1 by omega, Int.pow_succ, Int.add_mul, Int.mul_assoc, Int.mul_comm 128 (128 ^ i.toNat)]
              omega
            · rw [h5, hp, List.length_cons]; omega
            · rw [hp, List.length_cons]; omega
            · intro j hj
              cases j with
              | zero => simp only [hp, List.getElem_cons_zero]; simp
              | succ j =>
                rw [hp, List.length_cons] at hj
                simp only [hp, List.getElem_cons_succ]
                rw [← h7 j (by omega)]
                congr 1
                omega
      · rw [if_neg hok] at h
        cases h
    · rw [if_neg hlt] at h
      cases h
theorem put_read (x : Int) (h0 : 0 ≤ x) (h1 : x < 18446744073709551616) (t : ByteArray) : numL (strOfNums (putL 9 x) ++ t) 10 0 0 = ((0, x, ((putL 9 x).length : Int)) : Int × Int × Int) := by
  have hx : x < 128 ^ (9 + 1) := by omega
  have hs : (strOfNums (putL 9 x)).size = (putL 9 x).length := strOfNums_size _
  have := num_put (strOfNums (putL 9 x) ++ t) 9 10 0 0 x h0 hx (by omega) (.inl rfl) (by simpa using h1) (by omega) (by rw [ByteArray.size_append, hs]; omega) (fun j hj => by
    rw [Int.zero_add, bt_app_left (by omega) (by rw [hs]; omega)]
    exact bt_nums (putL_bytes 9 x h0 hx) hj)
  rw [this]
  simp
theorem read_put (s : ByteArray) (h : (numL s 10 0 0).1 = 0) : s.extract 0 (numL s 10 0 0).2.2.toNat = strOfNums (putL 9 (numL s 10 0 0).2.1) := by
  obtain ⟨x, h1, h2, _, h4, h5, h6, h7⟩ := num_canon s 9 0 0 (by omega) (by omega) h
  have e4 : (numL s 10 0 0).2.1 = x := by simpa using h4
  have e5 : (numL s 10 0 0).2.2 = (putL 9 x).length := by simpa using h5
  have h6' : (putL 9 x).length ≤ s.size := by omega
  rw [e4, e5, Int.toNat_natCast]
  refine ba_ext (by rw [size_take h6', strOfNums_size]) (fun i h0 hi => ?_)
  rw [size_take h6'] at hi
  obtain ⟨j, rfl⟩ := Int.eq_ofNat_of_zero_le h0
  rw [bt_take h6' h0 hi, bt_nums (putL_bytes 9 x h1 h2) (by omega)]
  have := h7 j (by omega)
  rwa [Int.zero_add] at this
theorem app_cut (a b : ByteArray) : (a ++ b).extract a.size (a ++ b).size = b := by
  refine ba_ext (by rw [ByteArray.size_extract, ByteArray.size_append]; omega) (fun i h0 hi => ?_)
  rw [ByteArray.size_extract, ByteArray.size_append] at hi
  rw [bt_drop (Nat.le_refl _) h0 (by rw [ByteArray.size_append]; omega), bt_app_right h0 (by omega)]
theorem take_drop (s : ByteArray) (n : Nat) (hn : n ≤ s.size) : s.extract 0 n ++ s.extract n s.size = s := by
  refine ba_ext (by rw [ByteArray.size_append, size_take hn, ByteArray.size_extract]; omega) (fun i h0 hi => ?_)
  rw [ByteArray.size_append, size_take hn, ByteArray.size_extract] at hi
  by_cases h : i < n
  · rw [bt_app_left h0 (by rw [size_take hn]; exact h), bt_take hn h0 h]
  · obtain ⟨j, rfl⟩ : ∃ j, i = ((s.extract 0 n).size : Int) + j := ⟨i - n, by rw [size_take hn]; omega⟩
    rw [size_take hn] at h hi
    rw [bt_app_right (by omega) (by rw [ByteArray.size_extract]; omega), bt_drop (Nat.le_refl _) (by omega) (by omega), size_take hn]
end Go.Proofs.Ytbgjoiccehiglaa.LibG
end
section
namespace Go.Proofs.Ytbgjoiccehiglaa.Print
open Go.RowKit Go.Proofs.YtbgjoiccehiglaaW.PrintWords Go.Proofs.YtbgjoiccehiglaaW.PrintLast Go.Proofs.YtbgjoiccehiglaaW.PrintMore
attribute [local go_sem] max2_int min2_int max_two min_two max_three min_three max_four min_four
set_option linter.unusedVariables false
set_option linter.unusedSimpArgs false
def runs_Decode.l0 : Nat → Int → List (S53) → Int → ByteArray → Int → Option (List Int × Int)
  | 0, _, _, _, _, _ => none
  | k + 1, x1, x7, x8, x306000, x306001 => (pack_Reader_Left.f x306000 x306001).bind fun bt306 => (if bt306.1 > 0 then ((pack_Reader_Num.f bt306.2.1 bt306.2.2).bind fun bt313 => ((pack_Reader_Num.f bt313.2.1 bt313.2.2).bind fun bt316 => ((pack_Reader_Err.f bt316.2.1 bt316.2.2).bind fun bt319 => (if bt319.1 = 0 then (if bt316.1 = 0 then (some (([] : List Int), 5)) else (if bt316.1 > (IntKind.u64.wrap (x8)) then (some (([] : List Int), 5)) else (if (wrap64 ((x7.length : Int) - 1)) ≥ 0 then (if 0 ≤ (wrap64 ((x7.length : Int) - 1)) then (if (wrap64 ((x7.length : Int) - 1)) < (x7.length : Int) then (if ((rd_T53 x7 (wrap64 ((x7.length : Int) - 1))).f0) = bt313.1 then (some (([] : List Int), 5)) else (if x7.length < 8796093022208 then (runs_Decode.l0 k x1 (x7 ++ [(⟨bt313.1, wrap64 (bt316.1)⟩ : S53)]) (wrap64 (x8 - (wrap64 (bt316.1)))) bt319.2.1 bt319.2.2) else (none))) else (none)) else (none)) else (if x7.length < 8796093022208 then (runs_Decode.l0 k x1 (x7 ++ [(⟨bt313.1, wrap64 (bt316.1)⟩ : S53)]) (wrap64 (x8 - (wrap64 (bt316.1)))) bt319.2.1 bt319.2.2) else (none))))) else (some (([] : List Int), bt319.1)))))) else (if x8 > 0 then (some (([] : List Int), 5)) else ((runs_Spread.f k x7 x1).bind fun bt309 => (some (bt309.1, 0)))))
def runs_Decode.f (k : Nat) (a0 : ByteArray) (a1 : Int) : Option (List Int × Int) := if a1 < 0 then (some (([] : List Int), 1)) else (if a1 > 4096 then (some (([] : List Int), 10)) else ((pack_New.f a0).bind fun bt303 => (runs_Decode.l0 k a1 ([] : List (S53)) a1 bt303.1 bt303.2)))
def bonsairef06_May.l0 : Nat → List (S53) → Int → Option (Bool)
  | 0, _, _ => none
  | k + 1, x0, x3 => if x3 < (x0.length : Int) then (if 0 ≤ x3 then (if ((rd_T53 x0 x3).f1) < 1 then (some false) else (if x3 > 0 then (if 0 ≤ (wrap64 (x3 - 1)) then (if (wrap64 (x3 - 1)) < (x0.length : Int) then (if ((rd_T53 x0 (wrap64 (x3 - 1))).f0) = ((rd_T53 x0 x3).f0) then (some false) else (bonsairef06_May.l0 k x0 (wrap64 (x3 + 1)))) else (none)) else (none)) else (bonsairef06_May.l0 k x0 (wrap64 (x3 + 1))))) else (none)) else (some true)
def bonsairef06_May.f (k : Nat) (l0 : List (S53)) : Option (Bool) := bonsairef06_May.l0 k l0 0
end Go.Proofs.Ytbgjoiccehiglaa.Print
end
section
namespace Go.Proofs.Ytbgjoiccehiglaa.Print
open Go.RowKit Go.Proofs.YtbgjoiccehiglaaW.PrintWords Go.Proofs.YtbgjoiccehiglaaW.PrintLast Go.Proofs.YtbgjoiccehiglaaW.PrintMore
attribute [local go_sem] max2_int min2_int max_two min_two max_three min_three max_four min_four
set_option linter.unusedVariables false
set_option linter.unusedSimpArgs false
mutual
def bonsairef06_Spread.j0 : Nat → List (S53) → Int → Bool → Option (List Int × Bool)
  | 0, _, _, _ => none
  | k + 1, x0, x1, x15 => if x15 = true then (some (([] : List Int), false)) else (bonsairef06_Spread.l0 k x0 x1 ([] : List Int) 0)
def bonsairef06_Spread.l0 : Nat → List (S53) → Int → List Int → Int → Option (List Int × Bool)
  | 0, _, _, _, _ => none
  | k + 1, x0, x1, x6, x7 => if x7 < (x0.length : Int) then (if 0 ≤ x7 then (if ((rd_T53 x0 x7).f1) > (wrap64 (x1 - (x6.length : Int))) then (some (([] : List Int), false)) else (bonsairef06_Spread.l1 k x0 x1 x6 x7 0)) else (none)) else (some (x6, true))
def bonsairef06_Spread.l1 : Nat → List (S53) → Int → List Int → Int → Int → Option (List Int × Bool)
  | 0, _, _, _, _, _ => none
  | k + 1, x0, x1, x6, x7, x8 => if 0 ≤ x7 then (if x7 < (x0.length : Int) then (if x8 < ((rd_T53 x0 x7).f1) then (if x6.length < 17592186044416 then (bonsairef06_Spread.l1 k x0 x1 (x6 ++ [(rd_T53 x0 x7).f0]) x7 (wrap64 (x8 + 1))) else (none)) else (bonsairef06_Spread.l0 k x0 x1 x6 (wrap64 (x7 + 1)))) else (none)) else (none)
end
def bonsairef06_Spread.f (k : Nat) (l0 : List (S53)) (a1 : Int) : Option (List Int × Bool) := (bonsairef06_May.f k l0).bind fun t384 => (if t384 = true then (bonsairef06_Spread.j0 k l0 a1 (decide (a1 < 0))) else (bonsairef06_Spread.j0 k l0 a1 true))
end Go.Proofs.Ytbgjoiccehiglaa.Print
end
namespace Go.Proofs.Ytbgjoiccehiglaa.Print
end Go.Proofs.Ytbgjoiccehiglaa.Print
section
namespace Go.Proofs.Ytbgjoiccehiglaa.LibW
open Go.RowKit Go.Proofs.Ytbgjoiccehiglaa.Print Go.Proofs.YtbgjoiccehiglaaW.PrintWords Go.Proofs.YtbgjoiccehiglaaW.PrintLast Go.Proofs.YtbgjoiccehiglaaW.PrintMore Go.Proofs.Ytbgjoiccehiglaa.LibU Go.Proofs.Ytbgjoiccehiglaa.LibV Go.Proofs.Ytbgjoiccehiglaa.LibC Go.Proofs.Ytbgjoiccehiglaa.LibE Go.Proofs.Ytbgjoiccehiglaa.LibG
theorem rd_at (l : List Int) (i : Nat) (h : i < l.length) : rd l (i : Int) = l[i] := by simp [rd, List.getD_eq_getElem?_getD, h]
theorem rd53_at (l : List S53) (i : Nat) (h : i < l.length) : rd_T53 l (i : Int) = l[i] := by simp [rd_T53, List.getD_eq_getElem?_getD, h]
theorem may_same (rs : List S53) (hl : (rs.length : Int) ≤ 1000000000000) : ∀ (k : Nat) (i : Int), 0 ≤ i → runs_May.l0 k rs rs (rs.length : Int) i = bonsairef06_May.l0 k rs i
  | 0, _, _ => rfl
  | k + 1, i, h0 => by
    unfold runs_May.l0 bonsairef06_May.l0
    by_cases hi : i < (rs.length : Int)
    · rw [if_pos hi, if_pos hi, if_pos h0, if_pos hi, if_pos h0, w64 (n := i + 1) (by omega) (by omega), may_same rs hl k (i + 1) (by omega)]
    · rw [if_neg hi, if_neg hi]
theorem may_iff (rs : List S53) : MayR rs ↔ (∀ (i : Nat) (h : i < rs.length), 1 ≤ rs[i].f1) ∧ ∀ (i : Nat) (h : i + 1 < rs.length), rs[i].f0 ≠ rs[i + 1].f0 := by
  constructor
  · intro h
    induction h with
    | nil => exact ⟨fun i h => absurd h (by simp), fun i h => absurd h (by simp)⟩
    | one r h => exact ⟨fun i hi => by obtain rfl : i = 0 := by simpa using hi
                                       exact h, fun i hi => by simp at hi⟩
    | snoc a q r h h1 hne ih =>
      refine ⟨fun i hi => ?_, fun i hi => ?_⟩
      · by_cases hc : i < (a ++ [q]).length
        · rw [List.getElem_append_left hc]; exact ih.1 i hc
        · rw [List.getElem_append_right (by omega)]; simpa using h1
      · by_cases hc : i + 1 < (a ++ [q]).length
        · rw [List.getElem_append_left (by omega), List.getElem_append_left hc]; exact ih.2 i hc
        · have hz : (a ++ [q]).length = a.length + 1 := by simp
          have hz2 : (a ++ [q] ++ [r]).length = a.length + 2 := by simp
          obtain rfl : i = a.length := by omega
          rw [List.getElem_append_left (by omega), List.getElem_append_right (by omega)]
          simpa using hne
  · obtain ⟨n, hn⟩ : ∃ n, n = rs.length := ⟨_, rfl⟩
    induction n generalizing rs with
    | zero => intro _; rw [List.length_eq_zero_iff.mp hn.symm]; exact .nil
    | succ n ih =>
      rintro ⟨h1, h2⟩
      rcases snoc_cases rs with rfl | ⟨b, r, rfl⟩
      · exact .nil
      · have hz : (b ++ [r]).length = b.length + 1 := by simp
        rcases snoc_cases b with rfl | ⟨a, q, rfl⟩
        · exact .one r (by have := h1 0 (by simp); simpa using this)
        · have hz3 : (a ++ [q]).length = a.length + 1 := by simp
          refine .snoc a q r (ih _ (by omega) ⟨fun i hi => ?_, fun i hi => ?_⟩) ?_ ?_
          · have := h1 i (by omega)
            rwa [List.getElem_append_left (by omega)] at this
          · have := h2 i (by omega)
            rwa [List.getElem_append_left (by omega), List.getElem_append_left (bs := [r]) hi] at this
          · have := h1 (a ++ [q]).length (by omega)
            rw [List.getElem_append_right (by omega)] at this
            simpa using this
          · have := h2 a.length (by omega)
            rw [List.getElem_append_left (by omega), List.getElem_append_right (by omega)] at this
            simpa using this
theorem may_l (rs : List S53) (hl : (rs.length : Int) ≤ 1000000000000) : ∀ (d k i : Nat), i + d = rs.length → d + 1 ≤ k → ((∀ (j : Nat) (h : j < rs.length), j < i → 1 ≤ rs[j].f1) ∧ ∀ (j : Nat) (h : j + 1 < rs.length), j + 1 < i → rs[j].f0 ≠ rs[j + 1].f0) →
    ∃ b, bonsairef06_May.l0 k rs (i : Int) = some b ∧ (b = true ↔ MayR rs)
  | 0, k, i, hd, hk, hm => by
    obtain ⟨k, rfl⟩ : ∃ k', k = k' + 1 := ⟨k - 1, by omega⟩
    unfold bonsairef06_May.l0
    rw [if_neg (by omega)]
    exact ⟨true, rfl, by simp only [true_iff]; exact (may_iff rs).mpr ⟨fun j h => hm.1 j h (by omega), fun j h => hm.2 j h (by omega)⟩⟩
  | d + 1, k, i, hd, hk, hm => by
    obtain ⟨k, rfl⟩ : ∃ k', k = k' + 1 := ⟨k - 1, by omega⟩
    have hi : i < rs.length := by omega
    unfold bonsairef06_May.l0
    rw [if_pos (by omega), if_pos (by omega), rd53_at rs i hi]
    by_cases h1 : rs[i].f1 < 1
    · rw [if_pos h1]
      exact ⟨false, rfl, by simp only [Bool.false_eq_true, false_iff]; intro h; have := ((may_iff rs).mp h).1 i hi; omega⟩
    · rw [if_neg h1, w64 (n := (i : Int) + 1) (by omega) (by omega)]
      by_cases h0 : (i : Int) > 0
      · rw [if_pos h0, w64 (n := (i : Int) - 1) (by omega) (by omega), if_pos (by omega), if_pos (by omega), show (i : Int) - 1 = ((i - 1 : Nat) : Int) by omega, rd53_at rs (i - 1) (by omega)]
        by_cases h2 : rs[i - 1].f0 = rs[i].f0
        · rw [if_pos h2]
          refine ⟨false, rfl, ?_⟩
          simp only [Bool.false_eq_true, false_iff]
          intro h
          have := ((may_iff rs).mp h).2 (i - 1) (by omega)
          simp only [show i - 1 + 1 = i by omega] at this
          exact this h2
        · rw [if_neg h2, show (i : Int) + 1 = ((i + 1 : Nat) : Int) by omega]
          refine may_l rs hl d k (i + 1) (by omega) (by omega) ⟨fun j h hj => ?_, fun j h hj => ?_⟩
          · by_cases hji : j = i
            · subst hji; omega
            · exact hm.1 j h (by omega)
          · by_cases hji : j + 1 = i
            · subst hji; simpa using h2
            · exact hm.2 j h (by omega)
      · rw [if_neg h0, show (i : Int) + 1 = ((i + 1 : Nat) : Int) by omega]
        refine may_l rs hl d k (i + 1) (by omega) (by omega) ⟨fun j h hj => ?_, fun j h hj => ?_⟩
        · obtain rfl : j = i := by omega
          omega
        · omega
theorem may_some (rs : List S53) (hl : (rs.length : Int) ≤ 1000000000000) (k : Nat) (hk : rs.length + 1 ≤ k) : ∃ b, runs_May.f k rs = some b ∧ bonsairef06_May.f k rs = some b ∧ (b = true ↔ MayR rs) := by
  obtain ⟨b, h1, h2⟩ := may_l rs hl rs.length k 0 (by omega) hk ⟨fun j _ h => absurd h (by omega), fun j _ h => absurd h (by omega)⟩
  exact ⟨b, (may_same rs hl k 0 (Int.le_refl 0)).trans h1, h1, h2⟩
def sL (most : Int) : List S53 → List Int → List Int × Bool
  | [], out => (out, true)
  | r :: rs, out => if r.f1 > most - out.length then ([], false) else sL most rs (out ++ List.replicate r.f1.toNat r.f0)
theorem sL_is (most : Int) : ∀ (rs : List S53) (out : List Int), (∀ r ∈ rs, 0 ≤ r.f1) → (out.length : Int) ≤ most → sL most rs out = if ((out ++ spread rs).length : Int) ≤ most then (out ++ spread rs, true) else ([], false)
  | [], out, _, ho => by simp [sL, spread, ho]
  | r :: rs, out, hr, ho => by
    have h0 := hr r List.mem_cons_self
    have hsp : spread (r :: rs) = List.replicate r.f1.toNat r.f0 ++ spread rs := by simp [spread]
    unfold sL
    by_cases h : r.f1 > most - out.length
    · rw [if_pos h, if_neg]
      rw [hsp, List.length_append, List.length_append, List.length_replicate]
      omega
    · rw [if_neg h, sL_is most rs _ (fun r hr' => hr r (List.mem_cons_of_mem _ hr')) (by rw [List.length_append, List.length_replicate]; omega), hsp, List.append_assoc]
theorem drop_at (l : List S53) (i : Nat) (h : i < l.length) : l.drop i = l[i] :: l.drop (i + 1) := List.drop_eq_getElem_cons h
theorem spread_l (rs : List S53) (most : Int) (hl : (rs.length : Int) ≤ 1000000000000) (hm : most ≤ 1000000) (hr : ∀ r ∈ rs, 0 ≤ r.f1) : ∀ (d k i : Nat) (out : List Int), i + d = rs.length → d + 1 ≤ k → (out.length : Int) ≤ most →
    runs_Spread.l0 k most out rs (rs.length : Int) (i : Int) = some (sL most (rs.drop i) out)
  | 0, k, i, out, hd, hk, ho => by
    obtain ⟨k, rfl⟩ : ∃ k', k = k' + 1 := ⟨k - 1, by omega⟩
    unfold runs_Spread.l0
    rw [if_neg (by omega), List.drop_eq_nil_of_le (by omega)]
    rfl
  | d + 1, k, i, out, hd, hk, ho => by
    obtain ⟨k, rfl⟩ : ∃ k', k = k' + 1 := ⟨k - 1, by omega⟩
    have hi : i < rs.length := by omega
    have h0 := hr rs[i] (List.getElem_mem hi)
    unfold runs_Spread.l0
    rw [if_pos (by omega), if_pos (by omega), if_pos (by omega), rd53_at rs i hi, drop_at rs i hi, w64 (n := most - out.length) (by omega) (by omega), w64 (n := (i : Int) + 1) (by omega) (by omega)]
    unfold sL
    by_cases h : rs[i].f1 > most - out.length
    · rw [if_pos h, if_pos h]
    · rw [if_neg h, if_neg h]
      unfold slices_Repeat_uint64_uint64.f
      rw [if_pos (by simp), if_pos (by omega)]
      simp only [Option.bind_some, List.length_replicate]
      rw [if_pos (by omega), show rd [rs[i].f0] 0 = rs[i].f0 from rfl, show (i : Int) + 1 = ((i + 1 : Nat) : Int) by omega]
      exact spread_l rs most hl hm hr d k (i + 1) _ (by omega) (by omega) (by rw [List.length_append, List.length_replicate]; omega)
theorem rep_add (n : Nat) (x : Int) (out : List Int) : out ++ [x] ++ List.replicate n x = out ++ List.replicate (n + 1) x := by
  rw [List.append_assoc, List.replicate_succ]; rfl
theorem refSpread_l1 (rs : List S53) (most : Int) (i : Nat) (hi : i < rs.length) (hl : (rs.length : Int) ≤ 1000000000000) (hf : rs[i].f1 ≤ 1000000) : ∀ (d k : Nat) (out : List Int) (j : Int), 0 ≤ j → j + d = rs[i].f1 → d + 1 ≤ k → (out.length : Int) + d ≤ 1000000 →
    bonsairef06_Spread.l1 k rs most out (i : Int) j = bonsairef06_Spread.l0 (k - (d + 1)) rs most (out ++ List.replicate d rs[i].f0) ((i + 1 : Nat) : Int) := by
  intro d
  induction d with
  | zero =>
    intro  k out j h0 hd hk ho
    obtain ⟨k, rfl⟩ : ∃ k', k = k' + 1 := ⟨k - 1, by omega⟩
    unfold bonsairef06_Spread.l1
    rw [if_pos (by omega), if_pos (by omega), rd53_at rs i hi, if_neg (by omega), w64 (by omega) (by omega)]
    simp
  | succ d ih =>
    intro  k out j h0 hd hk ho
    obtain ⟨k, rfl⟩ : ∃ k', k = k' + 1 := ⟨k - 1, by omega⟩
    unfold bonsairef06_Spread.l1
    rw [if_pos (by omega), if_pos (by omega), rd53_at rs i hi, if_pos (by omega), if_pos (by omega), w64 (n := j + 1) (by omega) (by omega)]
    rw [ih k _ (j + 1) (by omega) (by omega) (by omega) (by simp; omega), rep_add]
    congr 1
    omega
theorem refSpread_l (rs : List S53) (most : Int) (hl : (rs.length : Int) ≤ 1000000000000) (hm : most ≤ 1000000) (hr : ∀ r ∈ rs, 0 ≤ r.f1) (K : Nat) (hK : 1000002 ≤ K) : ∀ (d k i : Nat) (out : List Int), i + d = rs.length → d * K + 1 ≤ k → (out.length : Int) ≤ most →
    bonsairef06_Spread.l0 k rs most out (i : Int) = some (sL most (rs.drop i) out) := by
  intro d
  induction d with
  | zero =>
    intro  k i out hd hk ho
    obtain ⟨k, rfl⟩ : ∃ k', k = k' + 1 := ⟨k - 1, by omega⟩
    unfold bonsairef06_Spread.l0
    rw [if_neg (by omega), List.drop_eq_nil_of_le (by omega)]
    rfl
  | succ d ih =>
    intro  k i out hd hk ho
    obtain ⟨k, rfl⟩ : ∃ k', k = k' + 1 := ⟨k - 1, by omega⟩
    rw [Nat.succ_mul] at hk
    generalize d * K = D at hk ih
    have hi : i < rs.length := by omega
    have h0 := hr rs[i] (List.getElem_mem hi)
    unfold bonsairef06_Spread.l0
    rw [if_pos (by omega), if_pos (by omega), rd53_at rs i hi, drop_at rs i hi, w64 (n := most - out.length) (by omega) (by omega)]
    unfold sL
    by_cases h : rs[i].f1 > most - out.length
    · rw [if_pos h, if_pos h]
    · rw [if_neg h, if_neg h, refSpread_l1 rs most i hi hl (by omega) rs[i].f1.toNat k out 0 (by omega) (by omega) (by omega) (by omega)]
      exact ih _ (i + 1) _ (by omega) (by omega) (by rw [List.length_append, List.length_replicate]; omega)
noncomputable def spreadTo (rs : List S53) (most : Int) : List Int × Bool := by
  classical exact if MayR rs ∧ ((spread rs).length : Int) ≤ most then (spread rs, true) else ([], false)
theorem MayR.pos {rs : List S53} (h : MayR rs) : ∀ r ∈ rs, 1 ≤ r.f1 := fun r hr => by
  obtain ⟨i, hi, rfl⟩ := List.getElem_of_mem hr
  exact ((may_iff rs).mp h).1 i hi
theorem spread_some (rs : List S53) (most : Int) (hl : (rs.length : Int) ≤ 1000000000000) (hm : most ≤ 1000000) (hm0 : -9223372036854775808 ≤ most) (k : Nat) (K : Nat) (hK : 1000002 ≤ K) (hk : rs.length * K + rs.length + 3 ≤ k) :
    runs_Spread.f k rs most = some (spreadTo rs most) ∧ bonsairef06_Spread.f k rs most = some (spreadTo rs most) := by
  obtain ⟨k, rfl⟩ : ∃ m, k = m + 1 := ⟨k - 1, by omega⟩
  obtain ⟨b, h1, h2, h3⟩ := may_some rs hl (k + 1) (by omega)
  unfold runs_Spread.f bonsairef06_Spread.f
  rw [h1, h2]
  simp only [Option.bind_some]
  have no : ¬ (MayR rs ∧ ((spread rs).length : Int) ≤ most) → spreadTo rs most = ([], false) := fun h => by unfold spreadTo; rw [if_neg h]
  cases b with
  | false =>
    have hn : ¬ MayR rs := fun h => by have := h3.mpr h; cases this
    simp only [Bool.false_eq_true, if_false, runs_Spread.j0, bonsairef06_Spread.j0, if_true]
    rw [no (fun h => hn h.1)]
    exact ⟨rfl, rfl⟩
  | true =>
    have hmay := h3.mp rfl
    have hr : ∀ r ∈ rs, 0 ≤ r.f1 := fun r hr => by have := MayR.pos hmay r hr; omega
    simp only [if_true, runs_Spread.j0, bonsairef06_Spread.j0]
    by_cases hneg : most < 0
    · rw [if_pos (by simpa using hneg), if_pos (by simpa using hneg), no (fun h => by have := h.2; omega)]
      exact ⟨rfl, rfl⟩
    · rw [if_neg (by simpa using hneg), if_neg (by simpa using hneg)]
      have e1 := spread_l rs most hl hm hr rs.length k 0 [] (by omega) (by omega) (by simp; omega)
      have e2 := refSpread_l rs most hl hm hr K hK rs.length k 0 [] (by omega) (by omega) (by simp; omega)
      simp only [Int.natCast_zero, List.drop_zero] at e1 e2
      rw [e1, e2, sL_is most rs [] hr (by simp; omega), List.nil_append]
      unfold spreadTo
      by_cases hle : ((spread rs).length : Int) ≤ most
      · rw [if_pos hle, if_pos ⟨hmay, hle⟩]; exact ⟨rfl, rfl⟩
      · rw [if_neg hle, if_neg (fun h => hle h.2)]; exact ⟨rfl, rfl⟩
noncomputable def put (x : Int) : ByteArray := strOfNums (putL 9 x)
theorem put_size (x : Int) : 1 ≤ (put x).size ∧ (put x).size ≤ 10 := by
  have := putL_length 9 x
  unfold put
  rw [strOfNums_size]
  omega
noncomputable def encR : List S53 → ByteArray
  | [] => noText
  | r :: rs => (put r.f0 ++ put r.f1) ++ encR rs
theorem no_app (a : ByteArray) : noText ++ a = a := by
  apply ByteArray.ext
  simp [noText]
theorem app_no (a : ByteArray) : a ++ noText = a := by
  apply ByteArray.ext
  simp [noText]
def Wf (rs : List S53) : Prop := ∀ r ∈ rs, (0 ≤ r.f0 ∧ r.f0 < 18446744073709551616) ∧ 0 ≤ r.f1 ∧ r.f1 < 9223372036854775808
end Go.Proofs.Ytbgjoiccehiglaa.LibW
end
section
namespace Go.Proofs.Ytbgjoiccehiglaa.Print
open Go.RowKit Go.Proofs.YtbgjoiccehiglaaW.PrintWords Go.Proofs.YtbgjoiccehiglaaW.PrintLast Go.Proofs.YtbgjoiccehiglaaW.PrintMore
attribute [local go_sem] max2_int min2_int max_two min_two max_three min_three max_four min_four
set_option linter.unusedVariables false
set_option linter.unusedSimpArgs false
mutual
def bonsairef06_Decode.l0 : Nat → Int → List Int → ByteArray → Int → Int → Option (List Int × Int)
  | 0, _, _, _, _, _ => none
  | k + 1, x1, x7, x433000, x433001, x433002 => (bonsairef03_Reader_Left.f x433000 x433001 x433002).bind fun bt433 => (if bt433.1 > 0 then ((bonsairef03_Reader_Num.f k bt433.2.1 bt433.2.2.1 bt433.2.2.2).bind fun bt437 => ((bonsairef03_Reader_Num.f k bt437.2.1 bt437.2.2.1 bt437.2.2.2).bind fun bt441 => (if bt441.2.2.2 = 0 then (if bt441.1 = 0 then (bonsairef06_Decode.j1 k x1 x7 bt437.1 bt441.1 true bt441.2.1 bt441.2.2.1 bt441.2.2.2) else (if bt441.1 > (IntKind.u64.wrap (wrap64 (x1 - (x7.length : Int)))) then (bonsairef06_Decode.j1 k x1 x7 bt437.1 bt441.1 true bt441.2.1 bt441.2.2.1 bt441.2.2.2) else (if (x7.length : Int) > 0 then (if 0 ≤ (wrap64 ((x7.length : Int) - 1)) then (if (wrap64 ((x7.length : Int) - 1)) < (x7.length : Int) then (bonsairef06_Decode.j1 k x1 x7 bt437.1 bt441.1 ((rd x7 (wrap64 ((x7.length : Int) - 1))) == bt437.1) bt441.2.1 bt441.2.2.1 bt441.2.2.2) else (none)) else (none)) else (bonsairef06_Decode.j1 k x1 x7 bt437.1 bt441.1 false bt441.2.1 bt441.2.2.1 bt441.2.2.2)))) else (some (([] : List Int), bt441.2.2.2))))) else (if (x7.length : Int) < x1 then (some (([] : List Int), 5)) else (some (x7, 0))))
def bonsairef06_Decode.j1 : Nat → Int → List Int → Int → Int → Bool → ByteArray → Int → Int → Option (List Int × Int)
  | 0, _, _, _, _, _, _, _, _ => none
  | k + 1, x1, x7, x8, x9, x59, x433000, x433001, x433002 => if x59 = true then (some (([] : List Int), 5)) else (bonsairef06_Decode.l1 k x1 x7 x8 x9 0 x433000 x433001 x433002)
def bonsairef06_Decode.l1 : Nat → Int → List Int → Int → Int → Int → ByteArray → Int → Int → Option (List Int × Int)
  | 0, _, _, _, _, _, _, _, _ => none
  | k + 1, x1, x7, x8, x9, x10, x433000, x433001, x433002 => if x10 < x9 then (if x7.length < 17592186044416 then (bonsairef06_Decode.l1 k x1 (x7 ++ [x8]) x8 x9 (IntKind.u64.wrap (x10 + 1)) x433000 x433001 x433002) else (none)) else (bonsairef06_Decode.l0 k x1 x7 x433000 x433001 x433002)
end
end Go.Proofs.Ytbgjoiccehiglaa.Print
end
section
namespace Go.Proofs.Ytbgjoiccehiglaa.LibX
open Go.RowKit Go.Proofs.Ytbgjoiccehiglaa.Print Go.Proofs.YtbgjoiccehiglaaW.PrintWords Go.Proofs.YtbgjoiccehiglaaW.PrintLast Go.Proofs.YtbgjoiccehiglaaW.PrintMore Go.Proofs.Ytbgjoiccehiglaa.LibU Go.Proofs.Ytbgjoiccehiglaa.LibV Go.Proofs.Ytbgjoiccehiglaa.LibW Go.Proofs.Ytbgjoiccehiglaa.LibC Go.Proofs.Ytbgjoiccehiglaa.LibD Go.Proofs.Ytbgjoiccehiglaa.LibE Go.Proofs.Ytbgjoiccehiglaa.LibG
def numT (s : ByteArray) : Int × ByteArray × Int := if (numL s 10 0 0).1 = 0 then ((numL s 10 0 0).2.1, s.extract (numL s 10 0 0).2.2.toNat s.size, 0) else (0, s, (numL s 10 0 0).1)
theorem num_numT (s : ByteArray) (hs : s.size ≤ 9223372036854775000) : pack_Reader_Num.f s 0 = some (numT s) := by
  unfold pack_Reader_Num.f numT
  rw [if_pos hs, if_pos rfl]
  split <;> rfl
theorem num_err (s : ByteArray) (hs : s.size ≤ 9223372036854775000) {e : Int} (he : e ≠ 0) : pack_Reader_Num.f s e = some (0, s, e) := by
  unfold pack_Reader_Num.f
  rw [if_pos hs, if_neg he]
theorem numT_size (s : ByteArray) : (numT s).2.1.size ≤ s.size := by
  unfold numT
  split
  · simp only [ByteArray.size_extract]; omega
  · exact Nat.le_refl _
theorem numT_range (s : ByteArray) (hs : s.size ≤ 9223372036854775000) : 0 ≤ (numT s).1 ∧ (numT s).1 < 18446744073709551616 ∧ ((numT s).2.2 = 0 → (numT s).2.1.size < s.size) := by
  obtain ⟨h1, h2⟩ := numL_is s 10 0 0 (by omega) (by omega) (by omega) (by omega) (by decide)
  unfold numT
  split
  · rename_i h
    have := h1 h
    exact ⟨this.1, this.2.1, fun _ => by simp only [ByteArray.size_extract]; omega⟩
  · rename_i h
    exact ⟨Int.le_refl _, by show (0 : Int) < _; omega, fun h' => absurd h' h⟩
theorem numT_put (x : Int) (h0 : 0 ≤ x) (h1 : x < 18446744073709551616) (t : ByteArray) : numT (put x ++ t) = (x, t, 0) := by
  have h := put_read x h0 h1 t
  unfold numT put
  rw [h, if_pos rfl]
  have := app_cut (strOfNums (putL 9 x)) t
  rw [strOfNums_size] at this
  simp only [Int.toNat_natCast]
  rw [this]
theorem numT_was (s : ByteArray) (hs : s.size ≤ 9223372036854775000) (h : (numT s).2.2 = 0) : s = put (numT s).1 ++ (numT s).2.1 := by
  obtain ⟨h1, h2⟩ := numL_is s 10 0 0 (by omega) (by omega) (by omega) (by omega) (by decide)
  have he : (numL s 10 0 0).1 = 0 := by
    unfold numT at h
    split at h
    · assumption
    · exact h
  have := h1 he
  have h3 := read_put s he
  have h4 := take_drop s (numL s 10 0 0).2.2.toNat (by omega)
  unfold numT put
  rw [if_pos he]
  simp only
  rw [← h3, h4]
theorem noText_of {s : ByteArray} (h : s.size = 0) : s = noText := by
  refine ba_ext (by rw [h]; rfl) (fun i h0 h1 => by omega)
def lastIs (rs : List S53) (v : Int) : Prop := ∃ a r, rs = a ++ [r] ∧ r.f0 = v
open Classical in
noncomputable def dR : Nat → ByteArray → List S53 → Int → List S53 × Int
  | 0, _, rs, _ => (rs, 99)
  | d + 1, s, rs, left =>
    if s.size = 0 then (if left > 0 then ([], 5) else (rs, 0)) else
    if (numT s).2.2 ≠ 0 then ([], (numT s).2.2) else
    if (numT (numT s).2.1).2.2 ≠ 0 then ([], (numT (numT s).2.1).2.2) else
    if (numT (numT s).2.1).1 = 0 ∨ (numT (numT s).2.1).1 > left ∨ lastIs rs (numT s).1 then ([], 5) else
    dR d (numT (numT s).2.1).2.1 (rs ++ [(⟨(numT s).1, (numT (numT s).2.1).1⟩ : S53)]) (left - (numT (numT s).2.1).1)
def fin (p : List S53 × Int) : List Int × Int := if p.2 = 0 then (spread p.1, 0) else ([], p.2)
theorem may_push {rs : List S53} (h : MayR rs) {v c : Int} (hc : 1 ≤ c) (hl : ¬ lastIs rs v) : MayR (rs ++ [(⟨v, c⟩ : S53)]) := by
  rcases snoc_cases rs with rfl | ⟨a, q, rfl⟩
  · exact .one _ hc
  · exact .snoc _ _ _ h hc (fun he => hl ⟨a, q, rfl, he⟩)
theorem spread_cons (r : S53) (b : List S53) : spread (r :: b) = List.replicate r.f1.toNat r.f0 ++ spread b := by simp [spread]
theorem last_spread {rs : List S53} (h : MayR rs) {v : Int} : lastIs rs v ↔ ∃ a, spread rs = a ++ [v] := by
  rcases snoc_cases rs with rfl | ⟨b, r, rfl⟩
  · constructor
    · rintro ⟨a, q, he, _⟩; simp at he
    · rintro ⟨a, ha⟩; simp [spread] at ha
  · have h1 := h.last
    have hs : spread (b ++ [r]) = (spread b ++ List.replicate (r.f1.toNat - 1) r.f0) ++ [r.f0] := by
      rw [spread_snoc, List.append_assoc, ← List.replicate_succ', show r.f1.toNat - 1 + 1 = r.f1.toNat by omega]
    constructor
    · rintro ⟨a, q, he, hv⟩
      obtain ⟨rfl, rfl⟩ := snoc_inj he
      exact ⟨_, hv ▸ hs⟩
    · rintro ⟨a, ha⟩
      rw [hs] at ha
      exact ⟨b, r, rfl, (snoc_inj ha).2⟩
theorem w64' {x : Int} (h0 : 0 ≤ x) (h1 : x < 18446744073709551616) : IntKind.u64.wrap x = x := pack_wraps_u64 x h0 h1
theorem dec_l (n : Int) (hn0 : 0 ≤ n) (hn : n ≤ 4096) (K : Nat) (hK : 1000002 ≤ K) : ∀ (d k : Nat) (s : ByteArray) (rs : List S53) (left : Int), s.size < d → s.size ≤ 9223372036854775000 → d * K + 5000 * K + 5000 ≤ k → MayR rs → 0 ≤ left → left + (spread rs).length = n →
    runs_Decode.l0 k n rs left s 0 = some (fin (dR d s rs left)) := by
  intro d
  induction d with
  | zero => intro k s rs left hd; omega
  | succ d ih =>
    intro k s rs left hd hs hk hm h0 hl
    obtain ⟨k, rfl⟩ : ∃ m, k = m + 1 := ⟨k - 1, by omega⟩
    rw [Nat.succ_mul] at hk
    have hrl := len_spread hm
    have hmul : rs.length * K ≤ 4096 * K := Nat.mul_le_mul_right K (by omega)
    unfold runs_Decode.l0 dR
    simp only [pack_Reader_Left.f, Option.bind_some]
    by_cases hz : s.size = 0
    · rw [if_neg (by omega), if_pos hz]
      by_cases h1 : left > 0
      · rw [if_pos h1, if_pos h1]; rfl
      · rw [if_neg h1, if_neg h1, (spread_some rs n (by omega) (by omega) (by omega) k K hK (by omega)).1]
        unfold spreadTo fin
        rw [if_pos ⟨hm, by omega⟩]
        rfl
    · have r1 := numT_range s hs
      have z1 := numT_size s
      have r2 := numT_range (numT s).2.1 (by omega)
      have z2 := numT_size (numT s).2.1
      rw [if_pos (by omega), if_neg hz, num_numT s hs]
      simp only [Option.bind_some]
      by_cases e1 : (numT s).2.2 = 0
      · rw [if_neg (c := _ ≠ _) (fun h => h e1), e1, num_numT _ (by omega)]
        simp only [Option.bind_some, pack_Reader_Err.f]
        by_cases e2 : (numT (numT s).2.1).2.2 = 0
        · rw [if_pos e2, if_neg (c := _ ≠ _) (fun h => h e2), e2]
          have hlast : lastIs rs (numT s).1 ↔ 0 < rs.length ∧ (rd_T53 rs ((rs.length : Int) - 1)).f0 = (numT s).1 := by
            rcases snoc_cases rs with rfl | ⟨a, q, rfl⟩
            · exact ⟨fun ⟨a, q, he, _⟩ => by simp at he, fun h => by simp at h⟩
            · have : rd_T53 (a ++ [q]) (((a ++ [q]).length : Int) - 1) = q := by
                rw [show (((a ++ [q]).length : Int) - 1) = (a.length : Int) by simp]; exact rd53_last a q
              rw [this]
              exact ⟨fun ⟨b, r, he, hv⟩ => by obtain ⟨_, rfl⟩ := snoc_inj he; exact ⟨by simp, hv⟩, fun h => ⟨a, q, rfl, h.2⟩⟩
          rw [w64' (x := left) h0 (by omega), w64 (n := (rs.length : Int) - 1) (by omega) (by omega)]
          by_cases c0 : (numT (numT s).2.1).1 = 0
          · rw [if_pos c0, if_pos (.inl c0)]; rfl
          · rw [if_neg c0]
            by_cases c1 : (numT (numT s).2.1).1 > left
            · rw [if_pos c1, if_pos (.inr (.inl c1))]; rfl
            · rw [if_neg c1, w64 (n := (numT (numT s).2.1).1) (by omega) (by omega), w64 (n := left - (numT (numT s).2.1).1) (by omega) (by omega)]
              by_cases c2 : lastIs rs (numT s).1
              · have := hlast.mp c2
                rw [if_pos (by omega), if_pos (by omega), if_pos (by omega), if_pos this.2, if_pos (.inr (.inr c2))]; rfl
              · rw [if_neg (c := _ ∨ _) (fun h => h.elim c0 (fun h => h.elim c1 c2))]
                have go := ih k (numT (numT s).2.1).2.1 (rs ++ [(⟨(numT s).1, (numT (numT s).2.1).1⟩ : S53)]) (left - (numT (numT s).2.1).1) (by have := r1.2.2 e1; omega) (by omega) (by omega) (may_push hm (by omega) c2) (by omega)
                  (by rw [spread_snoc, List.length_append, List.length_replicate]; simp only; omega)
                by_cases c3 : (rs.length : Int) - 1 ≥ 0
                · rw [if_pos c3, if_pos (by omega), if_pos (by omega), if_neg (fun h => c2 (hlast.mpr ⟨by omega, h⟩)), if_pos (by omega)]
                  exact go
                · rw [if_neg c3, if_pos (by omega)]
                  exact go
        · rw [if_neg e2, if_pos e2]
          unfold fin
          rw [if_neg e2]
      · rw [if_pos e1, num_err _ (by omega) e1]
        simp only [Option.bind_some, pack_Reader_Err.f]
        rw [if_neg e1]
        unfold fin
        rw [if_neg e1]
noncomputable def decTo (s : ByteArray) (n : Int) : List Int × Int := if n < 0 then ([], 1) else if n > 4096 then ([], 10) else fin (dR (s.size + 1) s [] n)
theorem dec_some (s : ByteArray) (hs : s.size ≤ 140737488351232) (n : Int) (K : Nat) (hK : 1000002 ≤ K) (k : Nat) (hk : (s.size + 1) * K + 5000 * K + 5000 ≤ k) : runs_Decode.f k s n = some (decTo s n) := by
  unfold runs_Decode.f decTo
  by_cases h0 : n < 0
  · rw [if_pos h0, if_pos h0]
  · by_cases h1 : n > 4096
    · rw [if_neg h0, if_pos h1, if_neg h0, if_pos h1]
    · rw [if_neg h0, if_neg h1, if_neg h0, if_neg h1]
      simp only [pack_New.f, Option.bind_some]
      exact dec_l n (by omega) (by omega) K hK (s.size + 1) k s [] n (by omega) (by omega) hk .nil (by omega) (by simp [spread])
theorem ref_l1 (n v : Int) (S : ByteArray) (a : Int) : ∀ (d k : Nat) (out : List Int) (c j : Int), 0 ≤ j → j + d = c → c ≤ 1000000 → d + 1 ≤ k → (out.length : Int) + d ≤ 1000000 →
    bonsairef06_Decode.l1 k n out v c j S a 0 = bonsairef06_Decode.l0 (k - (d + 1)) n (out ++ List.replicate d v) S a 0 := by
  intro d
  induction d with
  | zero =>
    intro k out c j h0 hd hc hk ho
    obtain ⟨k, rfl⟩ : ∃ m, k = m + 1 := ⟨k - 1, by omega⟩
    unfold bonsairef06_Decode.l1
    rw [if_neg (by omega)]
    simp
  | succ d ih =>
    intro k out c j h0 hd hc hk ho
    obtain ⟨k, rfl⟩ : ∃ m, k = m + 1 := ⟨k - 1, by omega⟩
    unfold bonsairef06_Decode.l1
    rw [if_pos (by omega), if_pos (by omega), w64' (x := j + 1) (by omega) (by omega), ih k _ c (j + 1) (by omega) (by omega) hc (by omega) (by simp; omega), rep_add]
    congr 1
    omega
theorem refDec_l (n : Int) (hn0 : 0 ≤ n) (hn : n ≤ 4096) (S : ByteArray) (K : Nat) (hK : 1000002 ≤ K) : ∀ (d k : Nat) (s : ByteArray) (a : Int) (rs : List S53) (left : Int), s.size < d → Sim S a s → d * K + K ≤ k → MayR rs → 0 ≤ left → left + (spread rs).length = n →
    bonsairef06_Decode.l0 k n (spread rs) S a 0 = some (fin (dR d s rs left)) := by
  intro d
  induction d with
  | zero => intro k s a rs left hd; omega
  | succ d ih =>
    intro k s a rs left hd hS hk hm h0 hl
    obtain ⟨k, rfl⟩ : ∃ m, k = m + 1 := ⟨k - 1, by omega⟩
    rw [Nat.succ_mul] at hk
    have hsz := hS.size
    have hlo := hS.lo
    have hbig := hS.big
    have hs : s.size ≤ 9223372036854775000 := by omega
    unfold bonsairef06_Decode.l0 dR
    rw [(hS.left 0).2]
    simp only [Option.bind_some]
    by_cases hz : s.size = 0
    · rw [if_neg (by omega), if_pos hz]
      by_cases h1 : left > 0
      · rw [if_pos h1, if_pos (by omega)]; rfl
      · rw [if_neg h1, if_neg (by omega)]; rfl
    · have r1 := numT_range s hs
      have z1 := numT_size s
      have r2 := numT_range (numT s).2.1 (by omega)
      have z2 := numT_size (numT s).2.1
      rw [if_pos (by omega), if_neg hz]
      obtain ⟨v, s1, e1', a1, hp, hr, hS1, _, _, _, _, _, hf1⟩ := hS.num 0
      rw [num_numT s hs] at hp
      obtain ⟨hv1, hs1, he1⟩ : (numT s).1 = v ∧ (numT s).2.1 = s1 ∧ (numT s).2.2 = e1' := by
        have := Option.some.inj hp
        rw [this]; exact ⟨rfl, rfl, rfl⟩
      rw [hr k (by omega)]
      simp only [Option.bind_some]
      rw [hs1] at r1 z1 r2 z2
      rw [he1] at r1
      rw [hv1] at r1
      rw [hs1, he1, hv1]
      by_cases e1 : e1' = 0
      · rw [if_neg (c := _ ≠ _) (fun h => h e1), e1]
        obtain ⟨c, s2, e2', a2, hp2, hr2, hS2, _, _, _, _, _, hf2⟩ := hS1.num 0
        rw [num_numT s1 (by omega)] at hp2
        obtain ⟨hv2, hs2, he2⟩ : (numT s1).1 = c ∧ (numT s1).2.1 = s2 ∧ (numT s1).2.2 = e2' := by
          have := Option.some.inj hp2
          rw [this]; exact ⟨rfl, rfl, rfl⟩
        rw [hr2 k (by omega)]
        simp only [Option.bind_some]
        rw [hs2, hv2, he2] at r2
        rw [hs2] at z2
        rw [hs2, he2, hv2]
        by_cases e2 : e2' = 0
        · rw [if_pos e2, if_neg (c := _ ≠ _) (fun h => h e2), e2]
          rw [w64 (n := n - (spread rs).length) (by omega) (by omega), show n - (spread rs).length = left by omega, w64' (x := left) h0 (by omega), w64 (n := ((spread rs).length : Int) - 1) (by omega) (by omega)]
          have hyes : ∀ k' X, X = true → bonsairef06_Decode.j1 (k' + 1) n (spread rs) v c X S a2 0 = some (fin ([], 5)) := by
            rintro k' X rfl
            simp only [bonsairef06_Decode.j1, if_true]; rfl
          obtain ⟨k', rfl⟩ : ∃ m, k = m + 1 := ⟨k - 1, by omega⟩
          by_cases c0 : c = 0
          · rw [if_pos c0, if_pos (.inl c0)]; exact hyes k' _ rfl
          · rw [if_neg c0]
            by_cases c1 : c > left
            · rw [if_pos c1, if_pos (.inr (.inl c1))]; exact hyes k' _ rfl
            · rw [if_neg c1]
              have hno : ∀ X, X = false → ¬ lastIs rs v → bonsairef06_Decode.j1 (k' + 1) n (spread rs) v c X S a2 0 = some (fin (dR d s2 (rs ++ [(⟨v, c⟩ : S53)]) (left - c))) := by
                rintro X rfl c2
                simp only [bonsairef06_Decode.j1, Bool.false_eq_true, if_false]
                rw [ref_l1 n v S a2 c.toNat k' (spread rs) c 0 (by omega) (by omega) (by omega) (by omega) (by omega)]
                have hsp : spread rs ++ List.replicate c.toNat v = spread (rs ++ [(⟨v, c⟩ : S53)]) := (spread_snoc rs ⟨v, c⟩).symm
                rw [hsp]
                exact ih _ s2 a2 _ (left - c) (by have := r1.2.2 e1; omega) hS2 (by omega) (may_push hm (by omega) c2) (by omega) (by rw [← hsp, List.length_append, List.length_replicate]; omega)
              by_cases c2 : lastIs rs v
              · rw [if_pos (c := _ ∨ _) (.inr (.inr c2))]
                obtain ⟨b, hb⟩ := (last_spread hm).mp c2
                have hzl : ((spread rs).length : Int) = b.length + 1 := by rw [hb]; simp
                have hX : rd (spread rs) (((spread rs).length : Int) - 1) = v := by
                  rw [hb, show ((b ++ [v]).length : Int) - 1 = ((b.length : Nat) : Int) by simp, rd_at _ _ (by simp)]
                  simp
                rw [if_pos (by omega), if_pos (by omega), if_pos (by omega), hX]
                exact hyes k' _ (by simp)
              · rw [if_neg (c := _ ∨ _) (fun h => h.elim c0 (fun h => h.elim c1 c2))]
                rcases snoc_cases (spread rs) with he | ⟨b, x, hb⟩
                · rw [if_neg (by rw [he]; simp)]
                  exact hno _ rfl c2
                · have hzl : ((spread rs).length : Int) = b.length + 1 := by rw [hb]; simp
                  rw [if_pos (by omega), if_pos (by omega), if_pos (by omega)]
                  refine hno _ ?_ c2
                  rw [hb, show ((b ++ [x]).length : Int) - 1 = ((b.length : Nat) : Int) by simp, rd_at _ _ (by simp)]
                  simp only [List.getElem_concat_length, beq_eq_false_iff_ne, ne_eq]
                  rintro rfl
                  exact c2 ((last_spread hm).mpr ⟨b, hb⟩)
        · rw [if_neg e2, if_pos e2]
          unfold fin
          rw [if_neg e2]
      · rw [if_pos e1]
        obtain ⟨c, s2, e2', a2, hp2, hr2, hS2, _, _, hk2, _, _, hf2⟩ := hS1.num e1'
        obtain ⟨rfl, rfl, rfl, rfl⟩ := hk2 e1
        rw [hr2 k (by omega)]
        simp only [Option.bind_some]
        rw [if_neg e1]
        unfold fin
        rw [if_neg e1]
theorem dR_was : ∀ (d : Nat) (s : ByteArray) (a : List S53) (left : Int), s.size ≤ 9223372036854775000 → MayR a → 0 ≤ left → left ≤ 4096 → (dR d s a left).2 = 0 →
    ∃ b, (dR d s a left).1 = a ++ b ∧ s = encR b ∧ MayR (a ++ b) ∧ ((spread b).length : Int) = left ∧ Wf b := by
  intro d
  induction d with
  | zero => intro s a left _ _ _ _ h; exact absurd h (by simp [dR])
  | succ d ih =>
    intro s a left hs hm h0 h4 h
    unfold dR at h ⊢
    have r1 := numT_range s hs
    have z1 := numT_size s
    have r2 := numT_range (numT s).2.1 (by omega)
    have z2 := numT_size (numT s).2.1
    by_cases hz : s.size = 0
    · rw [if_pos hz] at h ⊢
      by_cases hp : left > 0
      · rw [if_pos hp] at h; exact absurd h (by simp)
      · rw [if_neg hp]
        exact ⟨[], by simp, noText_of hz, by simpa using hm, by simp [spread]; omega, fun r hr => by simp at hr⟩
    · rw [if_neg hz] at h ⊢
      by_cases e1 : (numT s).2.2 = 0
      · rw [if_neg (c := _ ≠ _) (fun h => h e1)] at h ⊢
        by_cases e2 : (numT (numT s).2.1).2.2 = 0
        · rw [if_neg (c := _ ≠ _) (fun h => h e2)] at h ⊢
          by_cases hc : (numT (numT s).2.1).1 = 0 ∨ (numT (numT s).2.1).1 > left ∨ lastIs a (numT s).1
          · rw [if_pos hc] at h; exact absurd h (by simp)
          · rw [if_neg hc] at h ⊢
            have hl : ¬ lastIs a (numT s).1 := fun h => hc (.inr (.inr h))
            have hc0 : (numT (numT s).2.1).1 ≠ 0 := fun h => hc (.inl h)
            have hc1 : ¬ (numT (numT s).2.1).1 > left := fun h => hc (.inr (.inl h))
            obtain ⟨b, h1, h2, h3, h4, h5⟩ := ih _ _ _ (by omega) (may_push hm (v := (numT s).1) (c := (numT (numT s).2.1).1) (by omega) hl) (by omega) (by omega) h
            refine ⟨⟨(numT s).1, (numT (numT s).2.1).1⟩ :: b, by rw [h1]; simp, ?_, by simpa using h3, by rw [spread_cons, List.length_append, List.length_replicate]; show (((numT (numT s).2.1).1.toNat + _ : Nat) : Int) = _; omega, fun r hr => ?_⟩
            · have w1 := numT_was s hs e1
              have w2 := numT_was (numT s).2.1 (by omega) e2
              show s = (put (numT s).1 ++ put (numT (numT s).2.1).1) ++ encR b
              rw [← h2, ByteArray.append_assoc, ← w2]
              exact w1
            · rcases List.mem_cons.mp hr with rfl | hr
              · exact ⟨⟨r1.1, r1.2.1⟩, r2.1, by show (numT (numT s).2.1).1 < _; omega⟩
              · exact h5 r hr
        · rw [if_pos e2] at h; exact absurd h e2
      · rw [if_pos e1] at h; exact absurd h e1
theorem dec_was (s : ByteArray) (hs : s.size ≤ 140737488351232) (n : Int) : ((decTo s n).2 = 0 → ((decTo s n).1.length : Int) = n ∧ encR (runs (decTo s n).1) = s ∧ ∀ x ∈ (decTo s n).1, 0 ≤ x ∧ x < 18446744073709551616) ∧ ((decTo s n).2 ≠ 0 → (decTo s n).1 = []) := by
  unfold decTo
  by_cases h0 : n < 0
  · rw [if_pos h0]; exact ⟨fun h => absurd h (by decide), fun _ => rfl⟩
  · by_cases h1 : n > 4096
    · rw [if_neg h0, if_pos h1]; exact ⟨fun h => absurd h (by decide), fun _ => rfl⟩
    · rw [if_neg h0, if_neg h1]
      unfold fin
      by_cases he : (dR (s.size + 1) s [] n).2 = 0
      · rw [if_pos he]
        refine ⟨fun _ => ?_, fun h => absurd rfl h⟩
        obtain ⟨b, e1, e2, e3, e4, e5⟩ := dR_was (s.size + 1) s [] n (by omega) .nil (by omega) (by omega) he
        simp only [List.nil_append] at e1 e3
        rw [e1]
        refine ⟨e4, ?_, fun x hx => ?_⟩
        · simp only; rw [runs_spread e3, ← e2]
        · simp only [spread, List.mem_flatMap] at hx
          obtain ⟨r, hr, hx⟩ := hx
          obtain rfl := List.eq_of_mem_replicate hx
          exact (e5 r hr).1
      · rw [if_neg he]
        exact ⟨fun h => absurd h he, fun _ => rfl⟩
end Go.Proofs.Ytbgjoiccehiglaa.LibX
end
section
namespace Go.Proofs.Ytbgjoiccehiglaa.LibH
open Go.RowKit Go.Proofs.Ytbgjoiccehiglaa.Print Go.Proofs.YtbgjoiccehiglaaW.PrintWords Go.Proofs.YtbgjoiccehiglaaW.PrintLast Go.Proofs.YtbgjoiccehiglaaW.PrintMore Go.Proofs.Ytbgjoiccehiglaa.LibU Go.Proofs.Ytbgjoiccehiglaa.LibV Go.Proofs.Ytbgjoiccehiglaa.LibW Go.Proofs.Ytbgjoiccehiglaa.LibX Go.Proofs.Ytbgjoiccehiglaa.LibD Go.Proofs.Ytbgjoiccehiglaa.LibE Go.Proofs.Ytbgjoiccehiglaa.LibG
def fl : Bool → List Bool → Int → List Int
  | _, [], n => [n]
  | c, x :: xs, n => if x = c then fl c xs (n + 1) else n :: fl (!c) xs 1
def lens (l : List Bool) : List Int := if l = [] then [] else fl false l 0
def sp : Bool → List Int → List Bool
  | _, [] => []
  | c, n :: ns => List.replicate n.toNat c ++ sp (!c) ns
def Pos (ns : List Int) : Prop := ∀ n ∈ ns, 1 ≤ n
theorem fl_rep : ∀ (k : Nat) (c : Bool) (l : List Bool) (n : Int), fl c (List.replicate k c ++ l) n = fl c l (n + k)
  | 0, c, l, n => by simp
  | k + 1, c, l, n => by
    rw [List.replicate_succ, List.cons_append]
    unfold fl
    rw [if_pos rfl, fl_rep k c l (n + 1)]
    rw [show n + 1 + (k : Int) = n + ((k + 1 : Nat) : Int) by omega]
    cases l <;> rfl
theorem fl_sp : ∀ (ns : List Int) (c : Bool) (n : Int), Pos ns → fl c (sp (!c) ns) n = n :: ns
  | [], c, n, _ => by simp [sp, fl]
  | m :: ns, c, n, h => by
    have hm := h m List.mem_cons_self
    unfold sp
    rw [show m.toNat = (m.toNat - 1) + 1 by omega, List.replicate_succ, List.cons_append]
    unfold fl
    rw [if_neg (by cases c <;> simp), fl_rep]
    have := fl_sp ns (!c) (1 + ((m.toNat - 1 : Nat) : Int)) (fun x hx => h x (List.mem_cons_of_mem _ hx))
    rw [this, show 1 + ((m.toNat - 1 : Nat) : Int) = m by omega]
def MayF (ns : List Int) : Prop := ns = [] ∨ ∃ n t, ns = n :: t ∧ 0 ≤ n ∧ Pos t ∧ ¬ (n = 0 ∧ t = [])
theorem sp_len : ∀ (ns : List Int) (c : Bool), (∀ n ∈ ns, 0 ≤ n) → ((sp c ns).length : Int) = ns.foldr (· + ·) 0
  | [], c, _ => rfl
  | n :: ns, c, h => by
    have h0 := h n List.mem_cons_self
    unfold sp
    rw [List.length_append, List.length_replicate, List.foldr_cons, ← sp_len ns (!c) (fun x hx => h x (List.mem_cons_of_mem _ hx))]
    omega
theorem lens_sp {ns : List Int} (h : MayF ns) : lens (sp false ns) = ns := by
  rcases h with rfl | ⟨n, t, rfl, h0, hp, hn⟩
  · rfl
  · have hne : sp false (n :: t) ≠ [] := by
      unfold sp
      intro he
      obtain ⟨h1, h2⟩ := List.append_eq_nil_iff.mp he
      have h3 : n = 0 := by have := congrArg List.length h1; simp at this; omega
      refine hn ⟨h3, ?_⟩
      cases t with
      | nil => rfl
      | cons m t =>
        have := hp m List.mem_cons_self
        unfold sp at h2
        have h4 := congrArg List.length (List.append_eq_nil_iff.mp h2).1
        simp at h4
        omega
    unfold lens
    rw [if_neg hne]
    unfold sp
    rw [fl_rep]
    have := fl_sp t false (0 + (n.toNat : Int)) hp
    rw [this]
    congr 1
    omega
theorem rdb_at (l : List Bool) (i : Nat) (h : i < l.length) : rdOf false l (i : Int) = l[i] := by simp [rdOf, List.getD_eq_getElem?_getD, h]
def lead (c : Bool) : List Bool → Nat
  | [] => 0
  | x :: xs => if x = c then lead c xs + 1 else 0
theorem ref_l1 (l : List Bool) (hl : (l.length : Int) ≤ 1000000000000) (c : Bool) (out : List Int) (ho : (out.length : Int) ≤ 10000000000000) : ∀ (d k i : Nat) (n : Int), i + d = l.length → d + 1 ≤ k → 0 ≤ n → n + d ≤ 1000000000000 →
    bonsairef07_Lengths.l1 k l out c (i : Int) n = bonsairef07_Lengths.l0 (k - (lead c (l.drop i) + 1)) l (out ++ [n + lead c (l.drop i)]) (!c) ((i + lead c (l.drop i) : Nat) : Int) := by
  intro d
  induction d with
  | zero =>
    intro k i n hd hk h0 hn
    obtain ⟨k, rfl⟩ : ∃ m, k = m + 1 := ⟨k - 1, by omega⟩
    unfold bonsairef07_Lengths.l1
    rw [if_neg (by omega), if_pos (by omega), List.drop_eq_nil_of_le (by omega)]
    simp [lead]
  | succ d ih =>
    intro k i n hd hk h0 hn
    obtain ⟨k, rfl⟩ : ∃ m, k = m + 1 := ⟨k - 1, by omega⟩
    have hi : i < l.length := by omega
    unfold bonsairef07_Lengths.l1
    rw [if_pos (by omega), if_pos (by omega), rdb_at l i hi, List.drop_eq_getElem_cons hi]
    unfold lead
    by_cases hx : l[i] = c
    · rw [if_pos (by simp [hx]), if_pos hx, w64 (by omega) (by omega), w64 (by omega) (by omega), show (i : Int) + 1 = ((i + 1 : Nat) : Int) by omega, ih k (i + 1) (n + 1) (by omega) (by omega) (by omega) (by omega)]
      rw [show n + 1 + (lead c (l.drop (i + 1)) : Int) = n + ((lead c (l.drop (i + 1)) + 1 : Nat) : Int) by omega, show k - (lead c (l.drop (i + 1)) + 1) = k + 1 - (lead c (l.drop (i + 1)) + 1 + 1) by omega, show i + 1 + lead c (l.drop (i + 1)) = i + (lead c (l.drop (i + 1)) + 1) by omega]
    · rw [if_neg (by simp [hx]), if_neg hx, if_pos (by omega)]
      simp
end Go.Proofs.Ytbgjoiccehiglaa.LibH
end
section
namespace Go.Proofs.Ytbgjoiccehiglaa.LibI
open Go.RowKit Go.Proofs.Ytbgjoiccehiglaa.Print Go.Proofs.YtbgjoiccehiglaaW.PrintWords Go.Proofs.YtbgjoiccehiglaaW.PrintLast Go.Proofs.YtbgjoiccehiglaaW.PrintMore Go.Proofs.Ytbgjoiccehiglaa.LibU Go.Proofs.Ytbgjoiccehiglaa.LibV Go.Proofs.Ytbgjoiccehiglaa.LibW Go.Proofs.Ytbgjoiccehiglaa.LibX Go.Proofs.Ytbgjoiccehiglaa.LibD Go.Proofs.Ytbgjoiccehiglaa.LibE Go.Proofs.Ytbgjoiccehiglaa.LibG Go.Proofs.Ytbgjoiccehiglaa.LibH
def least (f : Bool) : Int := if f = true then 0 else 1
def sF (most : Int) : Bool → Bool → List Int → List Bool → List Bool × Bool
  | _, _, [], out => (out, true)
  | c, f, n :: ns, out => if n < least f then ([], false) else if n > most - (out.length : Int) then ([], false) else sF most (!c) false ns (out ++ List.replicate n.toNat c)
def Ok (f : Bool) : List Int → Prop
  | [] => True
  | n :: t => least f ≤ n ∧ Pos t
theorem ok_false (t : List Int) : Ok false t ↔ Pos t := by
  cases t with
  | nil => exact ⟨fun _ n hn => by simp at hn, fun _ => trivial⟩
  | cons n t => exact ⟨fun h m hm => by
      rcases List.mem_cons.mp hm with rfl | hm
      · exact h.1
      · exact h.2 m hm, fun h => ⟨h n List.mem_cons_self, fun m hm => h m (List.mem_cons_of_mem _ hm)⟩⟩
open Classical in
theorem sF_is (most : Int) : ∀ (ns : List Int) (c f : Bool) (out : List Bool), (out.length : Int) ≤ most →
    sF most c f ns out = if Ok f ns ∧ (out.length : Int) + ((sp c ns).length : Int) ≤ most then (out ++ sp c ns, true) else ([], false) := by
  intro ns
  induction ns with
  | nil =>
    intro c f out ho
    simp [sF, Ok, sp, ho]
  | cons n ns ih =>
    intro c f out ho
    have hl : 0 ≤ least f := by unfold least; split <;> omega
    unfold sF sp
    by_cases h1 : n < least f
    · rw [if_pos h1, if_neg (fun h => by have := h.1.1; omega)]
    · rw [if_neg h1]
      rw [List.length_append, List.length_replicate]
      by_cases h2 : n > most - (out.length : Int)
      · rw [if_pos h2, if_neg (fun h => by have := h.2; omega)]
      · rw [if_neg h2, ih (!c) false _ (by rw [List.length_append, List.length_replicate]; omega), List.append_assoc, List.length_append, List.length_replicate]
        by_cases h3 : Ok false ns ∧ ((out.length + n.toNat : Nat) : Int) + ((sp (!c) ns).length : Int) ≤ most
        · rw [if_pos h3, if_pos ⟨⟨by omega, (ok_false ns).mp h3.1⟩, by have := h3.2; omega⟩]
        · rw [if_neg h3, if_neg (fun h => h3 ⟨(ok_false ns).mpr h.1.2, by have := h.2; omega⟩)]
theorem mn_i {i : Nat} : mn (i : Int) 1 = least (decide (i = 0)) := by
  unfold mn least
  by_cases h : i = 0
  · subst h; decide
  · simp [h]; omega
def odd (i : Nat) : Bool := decide (i % 2 = 1)
theorem odd_succ (i : Nat) : odd (i + 1) = !odd i := by
  unfold odd
  rcases Nat.mod_two_eq_zero_or_one i with h | h <;> simp [h] <;> omega
theorem tmod_odd (i : Nat) : ((Int.tmod (i : Int) 2) == 1) = odd i := by
  unfold odd
  rw [Int.tmod_eq_emod_of_nonneg (by omega)]
  by_cases h : i % 2 = 1
  · rw [decide_eq_true h, beq_iff_eq]; omega
  · rw [decide_eq_false h, beq_eq_false_iff_ne]; omega
theorem dropI (l : List Int) (i : Nat) (h : i < l.length) : l.drop i = l[i] :: l.drop (i + 1) := List.drop_eq_getElem_cons h
theorem spread_l (ns : List Int) (most : Int) (hl : (ns.length : Int) ≤ 1000000000000) (hm : most ≤ 1000000) : ∀ (d k i : Nat) (out : List Bool), i + d = ns.length → d + 1 ≤ k → (out.length : Int) ≤ most →
    flags_Spread.l0 k ns most (!odd i) (i : Int) out = some (sF most (odd i) (decide (i = 0)) (ns.drop i) out) := by
  intro d
  induction d with
  | zero =>
    intro k i out hd hk ho
    obtain ⟨k, rfl⟩ : ∃ m, k = m + 1 := ⟨k - 1, by omega⟩
    unfold flags_Spread.l0
    rw [if_neg (by omega), List.drop_eq_nil_of_le (by omega)]
    rfl
  | succ d ih =>
    intro k i out hd hk ho
    obtain ⟨k, rfl⟩ : ∃ m, k = m + 1 := ⟨k - 1, by omega⟩
    have hi : i < ns.length := by omega
    have hle : 0 ≤ least (decide (i = 0)) := by unfold least; split <;> omega
    unfold flags_Spread.l0
    rw [if_pos (by omega), if_pos (by omega), rd_at ns i hi, dropI ns i hi, mn_i, w64 (n := most - (out.length : Int)) (by omega) (by omega)]
    unfold sF
    by_cases h1 : ns[i] < least (decide (i = 0))
    · rw [if_pos h1, if_pos h1]
    · rw [if_neg h1, if_neg h1]
      by_cases h2 : ns[i] > most - (out.length : Int)
      · rw [if_pos h2, if_pos h2]
      · rw [if_neg h2, if_neg h2]
        unfold slices_Repeat_bool_bool.f
        rw [if_pos (by simp), if_pos (by omega)]
        simp only [Option.bind_some, List.length_replicate, Bool.not_not]
        rw [if_pos (by omega), w64 (by omega) (by omega), show rdOf false [odd i] 0 = odd i from rfl, show (i : Int) + 1 = ((i + 1 : Nat) : Int) by omega]
        have := ih k (i + 1) (out ++ List.replicate ns[i].toNat (odd i)) (by omega) (by omega) (by rw [List.length_append, List.length_replicate]; omega)
        rw [odd_succ, Bool.not_not] at this
        rw [this]
        simp
theorem repb_add (n : Nat) (x : Bool) (out : List Bool) : out ++ [x] ++ List.replicate n x = out ++ List.replicate (n + 1) x := by
  rw [List.append_assoc, List.replicate_succ]; rfl
theorem ref_l1' (ns : List Int) (most : Int) (i : Nat) (hi : i < ns.length) (hl : (ns.length : Int) ≤ 1000000000000) (hf : ns[i] ≤ 1000000) : ∀ (d k : Nat) (out : List Bool) (j : Int), 0 ≤ j → j + d = ns[i] → d + 1 ≤ k → (out.length : Int) + d ≤ 1000000 →
    bonsairef07_Spread.l1 k ns most out (i : Int) j = bonsairef07_Spread.l0 (k - (d + 1)) ns most (out ++ List.replicate d (odd i)) ((i + 1 : Nat) : Int) := by
  intro d
  induction d with
  | zero =>
    intro k out j h0 hd hk ho
    obtain ⟨k, rfl⟩ : ∃ m, k = m + 1 := ⟨k - 1, by omega⟩
    unfold bonsairef07_Spread.l1
    rw [if_pos (by omega), if_pos (by omega), rd_at ns i hi, if_neg (by omega), w64 (by omega) (by omega)]
    simp
  | succ d ih =>
    intro k out j h0 hd hk ho
    obtain ⟨k, rfl⟩ : ∃ m, k = m + 1 := ⟨k - 1, by omega⟩
    unfold bonsairef07_Spread.l1
    rw [if_pos (by omega), if_pos (by omega), rd_at ns i hi, if_pos (by omega), if_pos (by omega), w64 (n := j + 1) (by omega) (by omega), tmod_odd]
    rw [ih k _ (j + 1) (by omega) (by omega) (by omega) (by simp; omega), repb_add]
    congr 1
    omega
theorem refSpread_l' (ns : List Int) (most : Int) (hl : (ns.length : Int) ≤ 1000000000000) (hm : most ≤ 1000000) (K : Nat) (hK : 1000004 ≤ K) : ∀ (d k i : Nat) (out : List Bool), i + d = ns.length → d * K + 1 ≤ k → (out.length : Int) ≤ most →
    bonsairef07_Spread.l0 k ns most out (i : Int) = some (sF most (odd i) (decide (i = 0)) (ns.drop i) out) := by
  intro d
  induction d with
  | zero =>
    intro k i out hd hk ho
    obtain ⟨k, rfl⟩ : ∃ m, k = m + 1 := ⟨k - 1, by omega⟩
    unfold bonsairef07_Spread.l0
    rw [if_neg (by omega), List.drop_eq_nil_of_le (by omega)]
    rfl
  | succ d ih =>
    intro k i out hd hk ho
    rw [Nat.succ_mul] at hk
    generalize d * K = D at hk ih
    obtain ⟨k, rfl⟩ : ∃ m, k = m + 2 := ⟨k - 2, by omega⟩
    have hi : i < ns.length := by omega
    unfold bonsairef07_Spread.l0
    rw [if_pos (by omega), if_pos (by omega), rd_at ns i hi, dropI ns i hi, w64 (n := most - (out.length : Int)) (by omega) (by omega)]
    have hj : ∀ X : Bool, X = decide (ns[i] < least (decide (i = 0)) ∨ ns[i] > most - (out.length : Int)) → 0 ≤ ns[i] ∨ X = true → bonsairef07_Spread.j2 (k + 1) ns most out (i : Int) X = some (sF most (odd i) (decide (i = 0)) (ns[i] :: ns.drop (i + 1)) out) := by
      rintro X hX h0
      unfold sF
      simp only [bonsairef07_Spread.j2]
      by_cases h1 : ns[i] < least (decide (i = 0))
      · rw [if_pos h1, if_pos (by rw [hX]; exact decide_eq_true (.inl h1))]
      · rw [if_neg h1]
        by_cases h2 : ns[i] > most - (out.length : Int)
        · rw [if_pos h2, if_pos (by rw [hX]; exact decide_eq_true (.inr h2))]
        · have hXf : X = false := by rw [hX]; exact decide_eq_false (fun h => h.elim h1 h2)
          rw [if_neg h2, if_neg (by rw [hXf]; simp)]
          have h0 : 0 ≤ ns[i] := h0.elim id (fun h => by rw [hXf] at h; cases h)
          rw [ref_l1' ns most i hi hl (by omega) ns[i].toNat k out 0 (by omega) (by omega) (by omega) (by omega)]
          rw [ih _ (i + 1) _ (by omega) (by omega) (by rw [List.length_append, List.length_replicate]; omega), odd_succ]
          simp
    by_cases h1 : ns[i] < 0
    · rw [if_pos h1]
      refine hj true ?_ (.inr rfl)
      symm
      refine decide_eq_true (.inl ?_)
      unfold least
      split <;> omega
    · rw [if_neg h1]
      by_cases h2 : ns[i] = 0
      · rw [if_pos h2]
        by_cases h3 : (i : Int) > 0
        · rw [if_pos h3]
          refine hj true ?_ (.inr rfl)
          symm
          refine decide_eq_true (.inl ?_)
          unfold least
          rw [if_neg (by simp; omega)]
          omega
        · rw [if_neg h3]
          refine hj _ ?_ (.inl (by omega))
          have hl0 : least (decide (i = 0)) = 0 := by unfold least; rw [if_pos (by simp; omega)]
          rw [decide_eq_decide, hl0]
          omega
      · rw [if_neg h2]
        refine hj _ ?_ (.inl (by omega))
        rw [decide_eq_decide]
        unfold least
        split <;> omega
open Classical in
noncomputable def spreadTo (ns : List Int) (most : Int) : List Bool × Bool := if MayF ns ∧ 0 ≤ most ∧ ((sp false ns).length : Int) ≤ most then (sp false ns, true) else ([], false)
theorem spread_some (ns : List Int) (most : Int) (hl : (ns.length : Int) ≤ 1000000000000) (hm : most ≤ 1000000) (hm0 : -9223372036854775808 ≤ most) (k K : Nat) (hK : 1000004 ≤ K) (hk : ns.length * K + ns.length + 3 ≤ k) :
    flags_Spread.f k ns most = some (spreadTo ns most) ∧ bonsairef07_Spread.f k ns most = some (spreadTo ns most) := by
  obtain ⟨k, rfl⟩ : ∃ m, k = m + 1 := ⟨k - 1, by omega⟩
  unfold flags_Spread.f bonsairef07_Spread.f
  have no : ¬ (MayF ns ∧ 0 ≤ most ∧ ((sp false ns).length : Int) ≤ most) → spreadTo ns most = ([], false) := fun h => by unfold spreadTo; rw [if_neg h]
  by_cases h1 : most < 0
  · rw [if_pos h1, if_pos h1, no (fun h => by have := h.2.1; omega)]
    exact ⟨rfl, rfl⟩
  · rw [if_neg h1, if_neg h1]
    have go : ¬ (ns.length = 1 ∧ rd ns 0 = 0) → sF most false true ns [] = spreadTo ns most := fun hne => by
      rw [sF_is most ns false true [] (by simp; omega)]
      unfold spreadTo
      have hiff : (Ok true ns ∧ (([] : List Bool).length : Int) + ((sp false ns).length : Int) ≤ most) ↔ (MayF ns ∧ 0 ≤ most ∧ ((sp false ns).length : Int) ≤ most) := by
        simp only [List.length_nil]
        constructor
        · rintro ⟨h2, h3⟩
          refine ⟨?_, by omega, by omega⟩
          cases ns with
          | nil => exact .inl rfl
          | cons n t =>
            refine .inr ⟨n, t, rfl, ?_, h2.2, fun h4 => hne ⟨by rw [h4.2]; rfl, h4.1⟩⟩
            have := h2.1
            simpa [least] using this
        · rintro ⟨h2, h3, h4⟩
          refine ⟨?_, by omega⟩
          rcases h2 with rfl | ⟨n, t, rfl, h5, h6, _⟩
          · trivial
          · exact ⟨by simpa [least] using h5, h6⟩
      by_cases hc : Ok true ns ∧ (([] : List Bool).length : Int) + ((sp false ns).length : Int) ≤ most
      · rw [if_pos hc, if_pos (hiff.mp hc), List.nil_append]
      · rw [if_neg hc, if_neg (fun h => hc (hiff.mpr h))]
    have e1 : flags_Spread.l0 (k + 1) ns most true 0 [] = some (sF most false true ns []) := spread_l ns most hl hm ns.length (k + 1) 0 [] (by omega) (by omega) (by simp; omega)
    have e2 : bonsairef07_Spread.l0 k ns most [] 0 = some (sF most false true ns []) := refSpread_l' ns most hl hm K hK ns.length k 0 [] (by omega) (by omega) (by simp; omega)
    by_cases h2 : ns.length = 1 ∧ rd ns 0 = 0
    · rw [if_pos h2, if_pos (by omega), if_pos (by omega), h2.2]
      simp only [bonsairef07_Spread.j0, beq_self_eq_true, if_true]
      rw [no ?_]
      · exact ⟨rfl, rfl⟩
      · rintro ⟨h3, _, _⟩
        rcases h3 with rfl | ⟨n, t, rfl, _, _, h4⟩
        · simp at h2
        · have ht : t = [] := by have := h2.1; simp only [List.length_cons] at this; exact List.length_eq_zero_iff.mp (by omega)
          exact h4 ⟨by have := h2.2; simpa [rd] using this, ht⟩
    · rw [if_neg h2, e1, go h2]
      refine ⟨rfl, ?_⟩
      by_cases h3 : (ns.length : Int) = 1
      · rw [if_pos h3, if_pos (by omega)]
        have h4 : rd ns 0 ≠ 0 := fun h => h2 ⟨by omega, h⟩
        simp only [bonsairef07_Spread.j0]
        rw [if_neg (by simpa using h4), e2, go h2]
      · rw [if_neg h3]
        simp only [bonsairef07_Spread.j0, Bool.false_eq_true, if_false]
        rw [e2, go h2]
noncomputable def encN : List Int → ByteArray
  | [] => noText
  | n :: ns => put n ++ encN ns
def WfN (ns : List Int) : Prop := ∀ n ∈ ns, 0 ≤ n ∧ n < 9223372036854775808
end Go.Proofs.Ytbgjoiccehiglaa.LibI
end
section
namespace Go.Proofs.Ytbgjoiccehiglaa.LibJ
open Go.RowKit Go.Proofs.Ytbgjoiccehiglaa.Print Go.Proofs.YtbgjoiccehiglaaW.PrintWords Go.Proofs.YtbgjoiccehiglaaW.PrintLast Go.Proofs.YtbgjoiccehiglaaW.PrintMore Go.Proofs.Ytbgjoiccehiglaa.LibU Go.Proofs.Ytbgjoiccehiglaa.LibV Go.Proofs.Ytbgjoiccehiglaa.LibD Go.Proofs.Ytbgjoiccehiglaa.LibE Go.Proofs.Ytbgjoiccehiglaa.LibG Go.Proofs.Ytbgjoiccehiglaa.LibH Go.Proofs.Ytbgjoiccehiglaa.LibI
open Go.Proofs.Ytbgjoiccehiglaa.LibW (put put_size no_app app_no rd_at)
open Go.Proofs.Ytbgjoiccehiglaa.LibX (numT num_numT numT_size numT_range numT_put numT_was noText_of num_err w64')
theorem live07 : bonsailaw07_live.f 60 = some true := by decide +kernel
theorem live07_at {k : Nat} (hk : 60 ≤ k) : bonsailaw07_live.f k = some true := at_rounds (g := bonsailaw07_live.f) (fun k => bonsailaw07_live.mono k) hk live07
theorem same_l (a : List Bool) (hl : (a.length : Int) ≤ 1000000000000) : ∀ (d k i : Nat), i + d = a.length → d + 1 ≤ k → bonsairef07_Same.l0 k a a (i : Int) = some true := by
  intro d
  induction d with
  | zero =>
    intro k i hd hk
    obtain ⟨k, rfl⟩ : ∃ m, k = m + 1 := ⟨k - 1, by omega⟩
    unfold bonsairef07_Same.l0
    rw [if_neg (by omega)]
  | succ d ih =>
    intro k i hd hk
    obtain ⟨k, rfl⟩ : ∃ m, k = m + 1 := ⟨k - 1, by omega⟩
    unfold bonsairef07_Same.l0
    rw [if_pos (by omega), if_pos (by omega), if_pos (by omega), if_neg (by simp), w64 (by omega) (by omega), show (i : Int) + 1 = ((i + 1 : Nat) : Int) by omega]
    exact ih k (i + 1) (by omega) (by omega)
theorem same_self (a : List Bool) (hl : (a.length : Int) ≤ 1000000000000) (k : Nat) (hk : a.length + 1 ≤ k) : bonsairef07_Same.f k a a = some true := by
  unfold bonsairef07_Same.f
  rw [if_pos rfl]
  exact same_l a hl a.length k 0 (by omega) hk
def PreF (ns : List Int) : Prop := ns = [] ∨ ∃ n t, ns = n :: t ∧ 0 ≤ n ∧ Pos t
theorem mayF_iff (ns : List Int) : MayF ns ↔ PreF ns ∧ ns ≠ [0] := by
  constructor
  · rintro (rfl | ⟨n, t, rfl, h0, hp, hn⟩)
    · exact ⟨.inl rfl, by simp⟩
    · refine ⟨.inr ⟨n, t, rfl, h0, hp⟩, fun h => ?_⟩
      injection h with h1 h2
      exact hn ⟨h1, h2⟩
  · rintro ⟨rfl | ⟨n, t, rfl, h0, hp⟩, hn⟩
    · exact .inl rfl
    · refine .inr ⟨n, t, rfl, h0, hp, fun h => hn ?_⟩
      rw [h.1, h.2]
theorem pre_push {ns : List Int} (h : PreF ns) {v : Int} (h0 : 0 ≤ v) (hv : ¬ (v = 0 ∧ ns ≠ [])) : PreF (ns ++ [v]) := by
  rcases h with rfl | ⟨n, t, rfl, h1, hp⟩
  · exact .inr ⟨v, [], rfl, h0, fun m hm => by simp at hm⟩
  · refine .inr ⟨n, t ++ [v], by simp, h1, fun m hm => ?_⟩
    rcases List.mem_append.mp hm with hm | hm
    · exact hp m hm
    · simp at hm
      subst hm
      have : ¬ m = 0 := fun h => hv ⟨h, by simp⟩
      omega
theorem sp_snoc : ∀ (ns : List Int) (c : Bool) (v : Int), (sp c (ns ++ [v])).length = (sp c ns).length + v.toNat
  | [], c, v => by simp [sp]
  | n :: ns, c, v => by
    show (sp c (n :: (ns ++ [v]))).length = _
    unfold sp
    rw [List.length_append, List.length_append, sp_snoc ns (!c) v]
    omega
theorem pre_len {ns : List Int} (h : PreF ns) : (ns.length : Int) ≤ (sp false ns).length + 1 := by
  have hpos : ∀ (t : List Int) (c : Bool), Pos t → t.length ≤ (sp c t).length := by
    intro t
    induction t with
    | nil => intro c _; exact Nat.zero_le _
    | cons m t ih =>
      intro c hp
      have h1 := hp m List.mem_cons_self
      have := ih (!c) (fun x hx => hp x (List.mem_cons_of_mem _ hx))
      unfold sp
      rw [List.length_append, List.length_replicate, List.length_cons]
      omega
  rcases h with rfl | ⟨n, t, rfl, h0, hp⟩
  · show (0 : Int) ≤ _
    omega
  · have := hpos t true hp
    unfold sp
    rw [List.length_append, List.length_replicate, List.length_cons]
    simp only [Bool.not_false]
    omega
open Classical in
noncomputable def dF : Nat → ByteArray → List Int → Int → List Int × Int
  | 0, _, ns, _ => (ns, 99)
  | d + 1, s, ns, left =>
    if s.size = 0 then (if ns = [0] ∨ left > 0 then ([], 5) else (ns, 0)) else
    if (numT s).2.2 ≠ 0 then ([], (numT s).2.2) else
    if (numT s).1 > left ∨ ((numT s).1 = 0 ∧ ns ≠ []) then ([], 5) else
    dF d (numT s).2.1 (ns ++ [(numT s).1]) (left - (numT s).1)
def finF (p : List Int × Int) : List Bool × Int := if p.2 = 0 then (sp false p.1, 0) else ([], p.2)
theorem end_of {ns : List Int} (hp : PreF ns) {n left : Int} (h0 : 0 ≤ left) (hn : 0 ≤ n) (hl : left + (sp false ns).length = n) : spreadTo ns n = if ns = [0] then ([], false) else (sp false ns, true) := by
  unfold spreadTo
  by_cases h : ns = [0]
  · rw [if_pos h, if_neg (fun h' => ((mayF_iff ns).mp h'.1).2 h)]
  · rw [if_neg h, if_pos ⟨(mayF_iff ns).mpr ⟨hp, h⟩, hn, by omega⟩]
theorem dec_l (n : Int) (hn0 : 0 ≤ n) (hn : n ≤ 4096) (K : Nat) (hK : 1000004 ≤ K) : ∀ (d k : Nat) (s : ByteArray) (ns : List Int) (left : Int), s.size < d → s.size ≤ 9223372036854775000 → d * K + 5000 * K + 5000 ≤ k → PreF ns → 0 ≤ left → left + (sp false ns).length = n →
    flags_Decode.l0 k n ns left s 0 = some (finF (dF d s ns left)) := by
  intro d
  induction d with
  | zero => intro k s ns left hd; omega
  | succ d ih =>
    intro k s ns left hd hs hk hm h0 hl
    obtain ⟨k, rfl⟩ : ∃ m, k = m + 1 := ⟨k - 1, by omega⟩
    rw [Nat.succ_mul] at hk
    have hrl := pre_len hm
    have hmul : ns.length * K ≤ 4097 * K := Nat.mul_le_mul_right K (by omega)
    unfold flags_Decode.l0 dF
    simp only [pack_Reader_Left.f, Option.bind_some]
    by_cases hz : s.size = 0
    · rw [if_neg (by omega), if_pos hz, (spread_some ns n (by omega) (by omega) (by omega) k K hK (by omega)).1, end_of hm h0 hn0 hl]
      simp only [Option.bind_some]
      by_cases h1 : ns = [0]
      · rw [if_pos h1, if_pos (c := _ ∨ _) (.inl h1)]; rfl
      · rw [if_neg h1]
        by_cases h2 : left > 0
        · rw [if_pos rfl, if_pos h2, if_pos (.inr h2)]; rfl
        · rw [if_pos rfl, if_neg h2, if_neg (fun h => h.elim h1 h2)]; rfl
    · have r1 := numT_range s hs
      have z1 := numT_size s
      rw [if_pos (by omega), if_neg hz, num_numT s hs]
      simp only [Option.bind_some, pack_Reader_Err.f]
      by_cases e1 : (numT s).2.2 = 0
      · rw [if_pos e1, if_neg (c := _ ≠ _) (fun h => h e1), e1, w64' (x := left) h0 (by omega)]
        by_cases c1 : (numT s).1 > left
        · rw [if_pos c1, if_pos (.inl c1)]; rfl
        · rw [if_neg c1, w64 (n := (numT s).1) (by omega) (by omega), w64 (n := left - (numT s).1) (by omega) (by omega)]
          have go : ¬ ((numT s).1 = 0 ∧ ns ≠ []) → flags_Decode.l0 k n (ns ++ [(numT s).1]) (left - (numT s).1) (numT s).2.1 0 = some (finF (dF d (numT s).2.1 (ns ++ [(numT s).1]) (left - (numT s).1))) := fun c2 =>
            ih k (numT s).2.1 (ns ++ [(numT s).1]) (left - (numT s).1) (by have := r1.2.2 e1; omega) (by omega) (by omega) (pre_push hm r1.1 c2) (by omega) (by rw [sp_snoc]; omega)
          by_cases c2 : (numT s).1 = 0
          · rw [if_pos c2]
            by_cases c3 : (ns.length : Int) > 0
            · have hne : ns ≠ [] := by rintro rfl; simp at c3
              rw [if_pos c3, if_pos (.inr ⟨c2, hne⟩)]; rfl
            · have hne : ns = [] := List.length_eq_zero_iff.mp (by omega)
              rw [if_neg c3, if_pos (by omega), if_neg (c := _ ∨ _) (fun h => h.elim c1 (fun h => h.2 hne))]
              exact go (fun h => h.2 hne)
          · rw [if_neg c2, if_pos (by omega), if_neg (c := _ ∨ _) (fun h => h.elim c1 (fun h => c2 h.1))]
            exact go (fun h => c2 h.1)
      · rw [if_neg e1, if_pos e1]
        unfold finF
        rw [if_neg e1]
theorem refDec_l (n : Int) (hn0 : 0 ≤ n) (hn : n ≤ 4096) (S : ByteArray) (K : Nat) (hK : 1000004 ≤ K) : ∀ (d k : Nat) (s : ByteArray) (a : Int) (ns : List Int) (left : Int), s.size < d → Sim S a s → d * K + 5000 * K + 5000 ≤ k → PreF ns → 0 ≤ left → left + (sp false ns).length = n →
    bonsairef07_Decode.l0 k n ns left S a 0 = some (finF (dF d s ns left)) := by
  intro d
  induction d with
  | zero => intro k s a ns left hd; omega
  | succ d ih =>
    intro k s a ns left hd hS hk hm h0 hl
    obtain ⟨k, rfl⟩ : ∃ m, k = m + 1 := ⟨k - 1, by omega⟩
    rw [Nat.succ_mul] at hk
    have hrl := pre_len hm
    have hmul : ns.length * K ≤ 4097 * K := Nat.mul_le_mul_right K (by omega)
    have hsz := hS.size
    have hlo := hS.lo
    have hbig := hS.big
    have hs : s.size ≤ 9223372036854775000 := by omega
    unfold bonsairef07_Decode.l0 dF
    rw [(hS.left 0).2]
    simp only [Option.bind_some]
    by_cases hz : s.size = 0
    · rw [if_neg (by omega), if_pos hz, (spread_some ns n (by omega) (by omega) (by omega) k K hK (by omega)).2, end_of hm h0 hn0 hl]
      simp only [Option.bind_some]
      by_cases h1 : ns = [0]
      · rw [if_pos h1, if_pos (c := _ ∨ _) (.inl h1)]; rfl
      · rw [if_neg h1]
        by_cases h2 : left > 0
        · rw [if_pos rfl, if_pos h2, if_pos (.inr h2)]; rfl
        · rw [if_pos rfl, if_neg h2, if_neg (fun h => h.elim h1 h2)]; rfl
    · have r1 := numT_range s hs
      have z1 := numT_size s
      rw [if_pos (by omega), if_neg hz]
      obtain ⟨v, s1, e1', a1, hp, hr, hS1, _, _, _, _, _, hf1⟩ := hS.num 0
      rw [num_numT s hs] at hp
      obtain ⟨hv1, hs1, he1⟩ : (numT s).1 = v ∧ (numT s).2.1 = s1 ∧ (numT s).2.2 = e1' := by
        have := Option.some.inj hp
        rw [this]; exact ⟨rfl, rfl, rfl⟩
      rw [hr k (by omega)]
      simp only [Option.bind_some]
      rw [hs1, hv1, he1] at r1
      rw [hs1] at z1
      rw [hs1, he1, hv1]
      by_cases e1 : e1' = 0
      · rw [if_pos e1, if_neg (c := _ ≠ _) (fun h => h e1), e1, w64' (x := left) h0 (by omega)]
        by_cases c1 : v > left
        · rw [if_pos c1, if_pos (.inl c1)]; rfl
        · rw [if_neg c1, w64 (n := v) (by omega) (by omega), w64 (n := left - v) (by omega) (by omega)]
          have go : ¬ (v = 0 ∧ ns ≠ []) → bonsairef07_Decode.l0 k n (ns ++ [v]) (left - v) S a1 0 = some (finF (dF d s1 (ns ++ [v]) (left - v))) := fun c2 =>
            ih k s1 a1 (ns ++ [v]) (left - v) (by have := r1.2.2 e1; omega) hS1 (by omega) (pre_push hm r1.1 c2) (by omega) (by rw [sp_snoc]; omega)
          by_cases c2 : v = 0
          · rw [if_pos c2]
            by_cases c3 : (ns.length : Int) > 0
            · have hne : ns ≠ [] := by rintro rfl; simp at c3
              rw [if_pos c3, if_pos (.inr ⟨c2, hne⟩)]; rfl
            · have hne : ns = [] := List.length_eq_zero_iff.mp (by omega)
              rw [if_neg c3, if_pos (by omega), if_neg (c := _ ∨ _) (fun h => h.elim c1 (fun h => h.2 hne))]
              exact go (fun h => h.2 hne)
          · rw [if_neg c2, if_pos (by omega), if_neg (c := _ ∨ _) (fun h => h.elim c1 (fun h => c2 h.1))]
            exact go (fun h => c2 h.1)
      · rw [if_neg e1, if_pos e1]
        unfold finF
        rw [if_neg e1]
noncomputable def decTo (s : ByteArray) (n : Int) : List Bool × Int := if n < 0 then ([], 1) else if n > 4096 then ([], 10) else finF (dF (s.size + 1) s [] n)
theorem dec_some (s : ByteArray) (hs : s.size ≤ 140737488351232) (n : Int) (K : Nat) (hK : 1000004 ≤ K) (k : Nat) (hk : (s.size + 1) * K + 5000 * K + 5000 ≤ k) : flags_Decode.f k s n = some (decTo s n) ∧ bonsairef07_Decode.f k s n = some (decTo s n) := by
  unfold flags_Decode.f bonsairef07_Decode.f decTo
  by_cases h0 : n < 0
  · rw [if_pos h0, if_pos h0, if_pos h0]; exact ⟨rfl, rfl⟩
  · by_cases h1 : n > 4096
    · rw [if_neg h0, if_pos h1, if_neg h0, if_pos h1, if_neg h0, if_pos h1]; exact ⟨rfl, rfl⟩
    · rw [if_neg h0, if_neg h1, if_neg h0, if_neg h1, if_neg h0, if_neg h1]
      constructor
      · simp only [pack_New.f, Option.bind_some]
        exact dec_l n (by omega) (by omega) K hK (s.size + 1) k s [] n (by omega) (by omega) hk (.inl rfl) (by omega) (by simp [sp])
      · have hS := Sim.begin s hs 0 (by omega) (by omega)
        have hx : s.extract (0 : Int).toNat s.size = s := by simp
        rw [hx] at hS
        exact refDec_l n (by omega) (by omega) s K hK (s.size + 1) k s 0 [] n (by omega) hS hk (.inl rfl) (by omega) (by simp [sp])
theorem sp_app : ∀ (a : List Int) (c : Bool) (b : List Int), (∀ n ∈ b, 0 ≤ n) → (sp c (a ++ b)).length = (sp c a).length + (sp c b).length
  | [], c, b, _ => by simp [sp]
  | n :: a, c, b, hb => by
    show (sp c (n :: (a ++ b))).length = _
    have h1 := sp_app a (!c) b hb
    have h2 := sp_len b c hb
    have h3 := sp_len b (!c) hb
    have e1 : sp c (n :: (a ++ b)) = List.replicate n.toNat c ++ sp (!c) (a ++ b) := rfl
    have e2 : sp c (n :: a) = List.replicate n.toNat c ++ sp (!c) a := rfl
    rw [e1, e2, List.length_append, List.length_append, h1]
    omega
theorem dF_was : ∀ (d : Nat) (s : ByteArray) (a : List Int) (left : Int), s.size ≤ 9223372036854775000 → PreF a → 0 ≤ left → left ≤ 4096 → (dF d s a left).2 = 0 →
    ∃ b, (dF d s a left).1 = a ++ b ∧ s = encN b ∧ MayF (a ++ b) ∧ ((sp false b).length : Int) = left ∧ WfN b := by
  intro d
  induction d with
  | zero => intro s a left _ _ _ _ h; exact absurd h (by simp [dF])
  | succ d ih =>
    intro s a left hs hm h0 h4 h
    unfold dF at h ⊢
    have r1 := numT_range s hs
    have z1 := numT_size s
    by_cases hz : s.size = 0
    · rw [if_pos hz] at h ⊢
      by_cases hp : a = [0] ∨ left > 0
      · rw [if_pos hp] at h; exact absurd h (by simp)
      · rw [if_neg hp]
        exact ⟨[], by simp, noText_of hz, by rw [List.append_nil]; exact (mayF_iff a).mpr ⟨hm, fun h' => hp (.inl h')⟩, by simp [sp]; have := fun h' => hp (.inr h'); omega, fun r hr => by simp at hr⟩
    · rw [if_neg hz] at h ⊢
      by_cases e1 : (numT s).2.2 = 0
      · rw [if_neg (c := _ ≠ _) (fun h => h e1)] at h ⊢
        by_cases hc : (numT s).1 > left ∨ ((numT s).1 = 0 ∧ a ≠ [])
        · rw [if_pos hc] at h; exact absurd h (by simp)
        · rw [if_neg hc] at h ⊢
          have hc1 : ¬ (numT s).1 > left := fun h => hc (.inl h)
          obtain ⟨b, h1, h2, h3, h4, h5⟩ := ih _ _ _ (by omega) (pre_push hm r1.1 (fun h => hc (.inr h))) (by omega) (by omega) h
          have hsp : ((sp false ((numT s).1 :: b)).length : Int) = (numT s).1 + (sp false b).length := by
            have := sp_app [(numT s).1] false b (fun n hn => (h5 n hn).1)
            simp only [List.singleton_append] at this
            rw [this]
            simp [sp]
            omega
          refine ⟨(numT s).1 :: b, by rw [h1]; simp, ?_, by simpa using h3, by omega, fun r hr => ?_⟩
          · have w1 := numT_was s hs e1
            show s = put (numT s).1 ++ encN b
            rw [← h2]
            exact w1
          · rcases List.mem_cons.mp hr with rfl | hr
            · exact ⟨r1.1, by omega⟩
            · exact h5 r hr
      · rw [if_pos e1] at h; exact absurd h e1
theorem dec_was (s : ByteArray) (hs : s.size ≤ 140737488351232) (n : Int) : ((decTo s n).2 = 0 → ((decTo s n).1.length : Int) = n ∧ n ≤ 4096 ∧ encN (lens (decTo s n).1) = s) ∧ ((decTo s n).2 ≠ 0 → (decTo s n).1 = []) := by
  unfold decTo
  by_cases h0 : n < 0
  · rw [if_pos h0]; exact ⟨fun h => absurd h (by decide), fun _ => rfl⟩
  · by_cases h1 : n > 4096
    · rw [if_neg h0, if_pos h1]; exact ⟨fun h => absurd h (by decide), fun _ => rfl⟩
    · rw [if_neg h0, if_neg h1]
      unfold finF
      by_cases he : (dF (s.size + 1) s [] n).2 = 0
      · rw [if_pos he]
        refine ⟨fun _ => ?_, fun h => absurd rfl h⟩
        obtain ⟨b, e1, e2, e3, e4, e5⟩ := dF_was (s.size + 1) s [] n (by omega) (.inl rfl) (by omega) (by omega) he
        simp only [List.nil_append] at e1 e3
        rw [e1]
        refine ⟨e4, by omega, ?_⟩
        simp only
        rw [lens_sp e3, ← e2]
      · rw [if_neg he]
        exact ⟨fun h => absurd h he, fun _ => rfl⟩
theorem dec_short (s : ByteArray) (hs : s.size ≤ 140737488351232) (n : Int) : ((decTo s n).1.length : Int) ≤ 4096 := by
  have h := dec_was s hs n
  by_cases he : (decTo s n).2 = 0
  · have := h.1 he; omega
  · rw [h.2 he]; decide
end Go.Proofs.Ytbgjoiccehiglaa.LibJ
end
section
namespace Go.Proofs.Ytbgjoiccehiglaa.Pure
open Go.RowKit Go.Proofs.Ytbgjoiccehiglaa.Print Go.Proofs.YtbgjoiccehiglaaW.PrintWords Go.Proofs.YtbgjoiccehiglaaW.PrintLast Go.Proofs.YtbgjoiccehiglaaW.PrintMore Go.Proofs.Ytbgjoiccehiglaa.LibV Go.Proofs.Ytbgjoiccehiglaa.LibH Go.Proofs.Ytbgjoiccehiglaa.LibI Go.Proofs.Ytbgjoiccehiglaa.LibJ
theorem FlagsReads : bonsailaw07_FlagsReads.Pure := by
  intro s n hs hn
  obtain ⟨K, hK⟩ : ∃ K : Nat, 1000004 ≤ K := ⟨1000004, Nat.le_refl _⟩
  refine ⟨(s.size + 1) * K + 5000 * K + 5000, ?_⟩
  unfold bonsailaw07_FlagsReads.f
  rw [live07_at (by omega)]
  by_cases hb : (s.size : Int) > 500
  · rw [if_pos hb]; rfl
  · have hd := dec_some s hs n K hK _ (Nat.le_refl _)
    have hl := dec_short s hs n
    rw [if_neg hb, hd.1, hd.2]
    simp only [Option.bind_some]
    rw [same_self _ (by omega) _ (by omega)]
    simp
end Go.Proofs.Ytbgjoiccehiglaa.Pure
end
section
namespace Go.Proofs.Ytbgjoiccehiglaa.flagsReads
open Go.ChangeShapes Go.WideShapes Go.ChangeAt Go.RowKit
open Go.ChangeMaps (open_string shut_string)
set_option linter.unusedVariables false
theorem own : ownKnob Try.prog.godebug = none := by kernel_rfl
set_option maxRecDepth 100000 in
theorem lifted (os : Os) (started : os.Started) (H : Type) (enc : TypeId × Value → H) :
    ReturnsInHanded {} Try.checked os 15 .any (Rows.flagsReadsSpec.pre6 enc Try.prog Try.f15 Rows.flagsReadsRow.domain false) (Rows.flagsReadsSpec.post enc Try.prog Try.f15 false true false false) := by
  refine returnsInHanded_of_change_sized (C := Try.checked) own started (by kernel_rfl) Try.func15
    (ChangeSpec.witness6 (enc := enc) (C := Try.checked) false ⟨#[], #[.string ByteArray.empty, .int .i64 0], []⟩ 8 (by kernel_rfl) (by kernel_rfl) (by kernel_rfl) (by kernel_rfl)) ?_
  intro W base args ds gs before hval0 hW hcnd hsz0 _
  have hsz : (DataW.weightsEach Try.prog (Try.f15.params.toList ++ Rows.flagsReadsSpec.plain.varTypes Try.prog) (ds ++ gs)).all (· ≤ reachBytes) = true := hsz0
  have hval : ∀ (j : Nat) t v, Try.f15.params[j]? = some t → args[j]? = some v → Value.okWide Try.prog W .any base t v := hval0
  have hW' := hW
  obtain ⟨p, q, hA0, hV, rfl, hfz, hnd⟩ := hW
  have hA : DataW.TrodAll enc Try.prog W 0 (fun _ => true) true Try.f15.params.toList args.toList ds p := hA0
  rw [Try.params15] at hA hval hsz
  obtain ⟨v0, vs0, d0, ds0, p0, q0, hargs, rfl, rfl, h0, r0⟩ := trodAll_cons hA
  obtain ⟨v1, vs1, d1, ds1, p1, q1, rfl, rfl, rfl, h1, r1⟩ := trodAll_cons r0
  obtain ⟨rfl, rfl, rfl⟩ := trodAll_nil r1
  obtain rfl : args = #[v0, v1] := by cases args; simp_all
  obtain ⟨rfl, rfl⟩ := trodVars_none hV
  obtain ⟨a0, rfl, rfl, rfl, y0⟩ := open_string Try.underlying9 (hval 0 9 v0 rfl rfl) h0
  have w0 : a0.size ≤ 140737488351232 := by
    have z := sized_string hsz (j := 0) (t := 9) rfl rfl
    rw [Array.length_toList] at z
    exact z
  obtain ⟨a1, rfl, rfl, rfl, w1⟩ := open_int Try.underlying3 (hval 1 3 v1 rfl rfl) h1
  clear hA0 hval0 hsz0 hsz
  refine (Print.bonsailaw07_FlagsReads.walk Pure.FlagsReads a0 a1 W w0 w1).mono fun e W' ⟨he, bel⟩ => ?_
  subst he
  exact ⟨_, rfl, _, _, _, [], _, [], hW', trodAll_mk1 (shut_bool Try.underlying4 _), (trodAll_cons_mk (shut_string Try.underlying9 y0) (trodAll_cons_mk (shut_int Try.underlying3 w1) trodAll_mk0)), rfl, bel.frame _, fun h => by cases h⟩
theorem over : Rows.flagsReadsRow.holds Try.pinned (OpenSpec.ofChange Rows.flagsReadsSpec) :=
  OpenClaim.holds_of_wide 15 Try.f15 rfl rfl rfl rfl rfl rfl rfl ⟨rfl, rfl, rfl, rfl, rfl⟩ rfl rfl rfl rfl rfl (by kernel_rfl) Try.func15 (by kernel_rfl)
    (of_decide_eq_true (by kernel_rfl)) (by unfold Func.isWrapper; first | (rw [if_pos (by decide +kernel)]; kernel_rfl) | (rw [if_neg (by decide +kernel)]; exact ⟨rfl, rfl⟩))
    (fun os started H enc _ => lifted os started H enc)
theorem proved : Rows.FlagsReadsSaid := over
#print axioms proved
end Go.Proofs.Ytbgjoiccehiglaa.flagsReads
namespace Go.Proofs.Ytbgjoiccehiglaa
theorem flagsReads_holds : Rows.FlagsReadsSaid := flagsReads.proved
end Go.Proofs.Ytbgjoiccehiglaa
end
