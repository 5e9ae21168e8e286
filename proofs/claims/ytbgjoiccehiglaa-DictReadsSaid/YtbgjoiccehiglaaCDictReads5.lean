/- Part 5 of what DictReads stands on: merged by a program of this session out of its texts. -/
import Derived.Test.YtbgjoiccehiglaaCDictReads4
section
namespace Go.Proofs.Ytbgjoiccehiglaa.Print
open Go.RowKit Go.Proofs.YtbgjoiccehiglaaW.PrintWords Go.Proofs.YtbgjoiccehiglaaW.PrintLast Go.Proofs.YtbgjoiccehiglaaW.PrintMore
attribute [local go_sem] max2_int min2_int max_two min_two max_three min_three max_four min_four
set_option linter.unusedVariables false
set_option linter.unusedSimpArgs false
def bonsairef08_Decode.l0 : Nat → ByteArray → Int → Int → Int → List ByteArray → Int → Int → Option (List ByteArray × Int)
  | 0, _, _, _, _, _, _, _ => none
  | k + 1, x0, x1, x2, x9, x10, x11, x12 => if x12 < x9 then ((bonsairef04_Take.f k x0 x11 x2).bind fun bt947 => (if bt947.2.2 = 0 then (if x10.length < 8796093022208 then (bonsairef08_Decode.l0 k x0 x1 x2 x9 (x10 ++ [bt947.1]) bt947.2.1 (IntKind.u64.wrap (x12 + 1))) else (none)) else (some (([] : List ByteArray), bt947.2.2)))) else (if 0 ≤ x11 then (if x11 ≤ (x0.size : Int) then ((bonsairef06_Decode.f k (x0.extract (x11 : Int).toNat x0.size) x1).bind fun bt953 => (if bt953.2 = 0 then ((bonsairef08_May.f k x10 bt953.1).bind fun t957 => (if t957 = true then ((bonsairef08_Pick.f k x10 bt953.1).bind fun bt958 => (some (bt958.1, 0))) else (some (([] : List ByteArray), 5)))) else (some (([] : List ByteArray), bt953.2)))) else (none)) else (none))
def bonsairef08_Decode.f (k : Nat) (a0 : ByteArray) (a1 : Int) (a2 : Int) : Option (List ByteArray × Int) := if a1 < 0 then (some (([] : List ByteArray), 1)) else (if a1 > 4096 then (some (([] : List ByteArray), 10)) else ((bonsairef03_Reader_Num.f k a0 0 0).bind fun bt943 => (if bt943.2.2.2 = 0 then (if bt943.1 > (IntKind.u64.wrap (a1)) then (some (([] : List ByteArray), 10)) else (bonsairef08_Decode.l0 k a0 a1 a2 bt943.1 ([] : List ByteArray) bt943.2.2.1 0)) else (some (([] : List ByteArray), bt943.2.2.2)))))
set_option maxHeartbeats 8000000 in
set_option maxRecDepth 100000 in
theorem bonsairef08_Decode.calls (k : Nat) (a0 : ByteArray) (a1 : Int) (a2 : Int) (r1 : List ByteArray) (r2 : Int) (w : World) (h : bonsairef08_Decode.f k a0 a1 a2 = some (r1, r2)) :
    Calls Try.prog 75 #[.string a0, .int .i64 a1, .int .i64 a2] w fun e w' => ∃ v0_ : Value, e = .returned (.tuple #[v0_, .int .i64 r2]) ∧ Kd.R Kd.string 9 w' w.heap.size (fun _ => True) v0_ r1 ∧ Below w.heap.size w w' := by
  have hu93 := Try.underlying93
  have HB := Aside0.mk (Below.refl w.heap.size w)
  have H : (if a1 < 0 then (some (([] : List ByteArray), 1)) else (if a1 > 4096 then (some (([] : List ByteArray), 10)) else ((bonsairef03_Reader_Num.f k a0 0 0).bind fun bt943 => (if bt943.2.2.2 = 0 then (if bt943.1 > (IntKind.u64.wrap (a1)) then (some (([] : List ByteArray), 10)) else (bonsairef08_Decode.l0 k a0 a1 a2 bt943.1 ([] : List ByteArray) bt943.2.2.1 0)) else (some (([] : List ByteArray), bt943.2.2.2)))))) = some (r1, r2) := h
  clear h
  by_cases c4 : a1 < 0
  · rw [if_pos c4] at H
    have c4b0 : decide (a1 < 0) = true := decide_eq_true c4
    clear c4
    simp only [Option.some.injEq, Prod.mk.injEq] at H
    obtain ⟨rfl, rfl⟩ := H
    go_enter Try.func75, Try.ntmps75
    go_wp2
    repeat (go_quiet (fail); try go_wp2)
    go_ret2
    exact ⟨_, by first | rfl | (simp [errW_none, errW_some] <;> rfl) | (simp [*, errW_none, errW_some] <;> rfl), by first | exact Kd.R_nil _ _ _ _ _ | exact Kd.N_nil _ _ _ _ _ | exact Kd.V_nil _ _ _ _ _ | exact Kd.Q_nil _ _ _ _ _ | exact Kd.S_nil _ _ _ _ _, by repeat (first | (with_reducible first | exact HB.out | apply below_alloc | apply pw_below_drewN | apply below_drew1) | exact HB.out)⟩
  · rw [if_neg c4] at H
    have c4b0 : decide (a1 < 0) = false := decide_eq_false c4
    clear c4
    by_cases c5 : a1 > 4096
    · rw [if_pos c5] at H
      have c5b0 : decide (4096 < a1) = true := decide_eq_true c5
      clear c5
      simp only [Option.some.injEq, Prod.mk.injEq] at H
      obtain ⟨rfl, rfl⟩ := H
      go_enter Try.func75, Try.ntmps75
      go_wp2
      repeat (go_quiet (fail); try go_wp2)
      go_ret2
      exact ⟨_, by first | rfl | (simp [errW_none, errW_some] <;> rfl) | (simp [*, errW_none, errW_some] <;> rfl), by first | exact Kd.R_nil _ _ _ _ _ | exact Kd.N_nil _ _ _ _ _ | exact Kd.V_nil _ _ _ _ _ | exact Kd.Q_nil _ _ _ _ _ | exact Kd.S_nil _ _ _ _ _, by repeat (first | (with_reducible first | exact HB.out | apply below_alloc | apply pw_below_drewN | apply below_drew1) | exact HB.out)⟩
    · rw [if_neg c5] at H
      have c5b0 : decide (4096 < a1) = false := decide_eq_false c5
      clear c5
      replace H := Option.bind_eq_some_iff.mp H
      obtain ⟨⟨t943, t944, t945, t946⟩, A60, H⟩ := H
      replace H : (if t946 = 0 then (if t943 > (IntKind.u64.wrap (a1)) then (some (([] : List ByteArray), 10)) else (bonsairef08_Decode.l0 k a0 a1 a2 t943 ([] : List ByteArray) t945 0)) else (some (([] : List ByteArray), t946))) = some (r1, r2) := H
      have A6 := Aside0.mk A60
      clear A60
      by_cases c7 : t946 = 0
      · rw [if_pos c7] at H
        have c7b0 : (t946 == 0) = true := beq_iff_eq.mpr c7
        have c7b1 : (t946 != 0) = false := bne_eq_false_iff_eq.mpr c7
        clear c7
        by_cases c8 : t943 > (IntKind.u64.wrap (a1))
        · rw [if_pos c8] at H
          have c8b0 : decide ((IntKind.u64.wrap (a1)) < t943) = true := decide_eq_true c8
          clear c8
          simp only [Option.some.injEq, Prod.mk.injEq] at H
          obtain ⟨rfl, rfl⟩ := H
          go_enter Try.func75, Try.ntmps75
          go_wp2_with (first | ((with_reducible refine gate_dst (N := 26) rfl ?_); refine box_event ?hg (N := 26) ?hd (cs := #[.string a0, .int .i64 0, .int .i64 0]) (t := 93) ?hr ?_; (case hd => rfl); (case hg => rfl); (case hr => first | (go_simp; done) | (go_simp; rfl)); intro gb942 hg w9 hbox hb; have n0_ := Aside0.mk (below_step (by repeat (first | (with_reducible first | exact HB.out | apply below_alloc | apply pw_below_drewN | apply below_drew1) | exact HB.out)) hb); have n1_ := Aside0.mk ((by rw [hg]; exact (below_size (by repeat (first | (with_reducible first | exact HB.out | apply below_alloc | apply pw_below_drewN | apply below_drew1) | exact HB.out))) : w.heap.size ≤ gb942)); have n2_ := Aside0.mk ((by rw [hg]; exact (below_size (by repeat (first | (with_reducible first | exact HB.out | apply below_alloc | apply pw_below_drewN | apply below_drew1) | exact HB.out))) : w.heap.size ≤ gb942)); have n3_ := Aside0.mk ((show IsS93 w w9 gb942 a0 0 0 from ⟨hbox, (by rw [hg]; exact (below_size (by repeat (first | (with_reducible first | exact HB.out | apply below_alloc | apply pw_below_drewN | apply below_drew1) | exact HB.out))) : w.heap.size ≤ gb942)⟩)); clear HB; have HB := n0_; have GW942 := n1_; have GE942 := n2_; have HI942 := n3_; clear n0_ n1_ n2_ n3_; clear hb hbox hg) | (go_at_call 85; (with_reducible refine (bonsairef03_Reader_Num.calls k gb942 a0 0 0 t943 t944 t945 t946 w _ ?side1 ?side2 A6.out).mono ?_); (case side1 => repeat (first | (with_reducible first | exact HI942.out | apply IsS93.alloc | apply IsS93.drewN | apply IsS93.drew | apply IsS93.set_0 | apply IsS93.set_1 | apply IsS93.set_2) | exact HI942.out)); (case side2 => repeat (first | (with_reducible first | exact HB.out | apply below_alloc | apply pw_below_drewN | apply below_drew1 | refine below_set ?_ (IsS93.ge HI942.out)) | exact HB.out)); rintro e w10 ⟨rfl, hi, hb, hk⟩; have n0_ := Aside0.mk (hb); have n1_ := Aside0.mk (hi); clear HB; clear HI942; have HB := n0_; have HI942 := n1_; clear n0_ n1_; (try clear hb); (try clear hb2); (try clear hk); (try clear hi); obtain ⟨HGz11, hgz11⟩ := HI942.out; have hcz11_0 := cellS93_0 HGz11; have hcz11_1 := cellS93_1 HGz11; have hcz11_2 := cellS93_2 HGz11; have hfz11_0 := blk_frozen HGz11 0; have hfz11_1 := blk_frozen HGz11 1; have hfz11_2 := blk_frozen HGz11 2; clear HGz11 hgz11))
          repeat (go_quiet (first | ((with_reducible refine gate_dst (N := 26) rfl ?_); refine box_event ?hg (N := 26) ?hd (cs := #[.string a0, .int .i64 0, .int .i64 0]) (t := 93) ?hr ?_; (case hd => rfl); (case hg => rfl); (case hr => first | (go_simp; done) | (go_simp; rfl)); intro gb942 hg w9 hbox hb; have n0_ := Aside0.mk (below_step (by repeat (first | (with_reducible first | exact HB.out | apply below_alloc | apply pw_below_drewN | apply below_drew1) | exact HB.out)) hb); have n1_ := Aside0.mk ((by rw [hg]; exact (below_size (by repeat (first | (with_reducible first | exact HB.out | apply below_alloc | apply pw_below_drewN | apply below_drew1) | exact HB.out))) : w.heap.size ≤ gb942)); have n2_ := Aside0.mk ((by rw [hg]; exact (below_size (by repeat (first | (with_reducible first | exact HB.out | apply below_alloc | apply pw_below_drewN | apply below_drew1) | exact HB.out))) : w.heap.size ≤ gb942)); have n3_ := Aside0.mk ((show IsS93 w w9 gb942 a0 0 0 from ⟨hbox, (by rw [hg]; exact (below_size (by repeat (first | (with_reducible first | exact HB.out | apply below_alloc | apply pw_below_drewN | apply below_drew1) | exact HB.out))) : w.heap.size ≤ gb942)⟩)); clear HB; have HB := n0_; have GW942 := n1_; have GE942 := n2_; have HI942 := n3_; clear n0_ n1_ n2_ n3_; clear hb hbox hg) | (go_at_call 85; (with_reducible refine (bonsairef03_Reader_Num.calls k gb942 a0 0 0 t943 t944 t945 t946 w _ ?side1 ?side2 A6.out).mono ?_); (case side1 => repeat (first | (with_reducible first | exact HI942.out | apply IsS93.alloc | apply IsS93.drewN | apply IsS93.drew | apply IsS93.set_0 | apply IsS93.set_1 | apply IsS93.set_2) | exact HI942.out)); (case side2 => repeat (first | (with_reducible first | exact HB.out | apply below_alloc | apply pw_below_drewN | apply below_drew1 | refine below_set ?_ (IsS93.ge HI942.out)) | exact HB.out)); rintro e w10 ⟨rfl, hi, hb, hk⟩; have n0_ := Aside0.mk (hb); have n1_ := Aside0.mk (hi); clear HB; clear HI942; have HB := n0_; have HI942 := n1_; clear n0_ n1_; (try clear hb); (try clear hb2); (try clear hk); (try clear hi); obtain ⟨HGz11, hgz11⟩ := HI942.out; have hcz11_0 := cellS93_0 HGz11; have hcz11_1 := cellS93_1 HGz11; have hcz11_2 := cellS93_2 HGz11; have hfz11_0 := blk_frozen HGz11 0; have hfz11_1 := blk_frozen HGz11 1; have hfz11_2 := blk_frozen HGz11 2; clear HGz11 hgz11)); try go_wp2_with (first | ((with_reducible refine gate_dst (N := 26) rfl ?_); refine box_event ?hg (N := 26) ?hd (cs := #[.string a0, .int .i64 0, .int .i64 0]) (t := 93) ?hr ?_; (case hd => rfl); (case hg => rfl); (case hr => first | (go_simp; done) | (go_simp; rfl)); intro gb942 hg w9 hbox hb; have n0_ := Aside0.mk (below_step (by repeat (first | (with_reducible first | exact HB.out | apply below_alloc | apply pw_below_drewN | apply below_drew1) | exact HB.out)) hb); have n1_ := Aside0.mk ((by rw [hg]; exact (below_size (by repeat (first | (with_reducible first | exact HB.out | apply below_alloc | apply pw_below_drewN | apply below_drew1) | exact HB.out))) : w.heap.size ≤ gb942)); have n2_ := Aside0.mk ((by rw [hg]; exact (below_size (by repeat (first | (with_reducible first | exact HB.out | apply below_alloc | apply pw_below_drewN | apply below_drew1) | exact HB.out))) : w.heap.size ≤ gb942)); have n3_ := Aside0.mk ((show IsS93 w w9 gb942 a0 0 0 from ⟨hbox, (by rw [hg]; exact (below_size (by repeat (first | (with_reducible first | exact HB.out | apply below_alloc | apply pw_below_drewN | apply below_drew1) | exact HB.out))) : w.heap.size ≤ gb942)⟩)); clear HB; have HB := n0_; have GW942 := n1_; have GE942 := n2_; have HI942 := n3_; clear n0_ n1_ n2_ n3_; clear hb hbox hg) | (go_at_call 85; (with_reducible refine (bonsairef03_Reader_Num.calls k gb942 a0 0 0 t943 t944 t945 t946 w _ ?side1 ?side2 A6.out).mono ?_); (case side1 => repeat (first | (with_reducible first | exact HI942.out | apply IsS93.alloc | apply IsS93.drewN | apply IsS93.drew | apply IsS93.set_0 | apply IsS93.set_1 | apply IsS93.set_2) | exact HI942.out)); (case side2 => repeat (first | (with_reducible first | exact HB.out | apply below_alloc | apply pw_below_drewN | apply below_drew1 | refine below_set ?_ (IsS93.ge HI942.out)) | exact HB.out)); rintro e w10 ⟨rfl, hi, hb, hk⟩; have n0_ := Aside0.mk (hb); have n1_ := Aside0.mk (hi); clear HB; clear HI942; have HB := n0_; have HI942 := n1_; clear n0_ n1_; (try clear hb); (try clear hb2); (try clear hk); (try clear hi); obtain ⟨HGz11, hgz11⟩ := HI942.out; have hcz11_0 := cellS93_0 HGz11; have hcz11_1 := cellS93_1 HGz11; have hcz11_2 := cellS93_2 HGz11; have hfz11_0 := blk_frozen HGz11 0; have hfz11_1 := blk_frozen HGz11 1; have hfz11_2 := blk_frozen HGz11 2; clear HGz11 hgz11)))
          go_ret2
          exact ⟨_, by first | rfl | (simp [errW_none, errW_some] <;> rfl) | (simp [*, errW_none, errW_some] <;> rfl), by first | exact Kd.R_nil _ _ _ _ _ | exact Kd.N_nil _ _ _ _ _ | exact Kd.V_nil _ _ _ _ _ | exact Kd.Q_nil _ _ _ _ _ | exact Kd.S_nil _ _ _ _ _, by repeat (first | (with_reducible first | exact HB.out | apply below_alloc | apply pw_below_drewN | apply below_drew1 | refine below_set ?_ (IsS93.ge HI942.out)) | exact HB.out)⟩
        · rw [if_neg c8] at H
          have c8b0 : decide ((IntKind.u64.wrap (a1)) < t943) = false := decide_eq_false c8
          clear c8
          have H' := Aside0.mk H
          clear H
          go_enter Try.func75, Try.ntmps75
          go_wp2_with (first | ((with_reducible refine gate_dst (N := 26) rfl ?_); refine box_event ?hg (N := 26) ?hd (cs := #[.string a0, .int .i64 0, .int .i64 0]) (t := 93) ?hr ?_; (case hd => rfl); (case hg => rfl); (case hr => first | (go_simp; done) | (go_simp; rfl)); intro gb942 hg w12 hbox hb; have n0_ := Aside0.mk (below_step (by repeat (first | (with_reducible first | exact HB.out | apply below_alloc | apply pw_below_drewN | apply below_drew1) | exact HB.out)) hb); have n1_ := Aside0.mk ((by rw [hg]; exact (below_size (by repeat (first | (with_reducible first | exact HB.out | apply below_alloc | apply pw_below_drewN | apply below_drew1) | exact HB.out))) : w.heap.size ≤ gb942)); have n2_ := Aside0.mk ((by rw [hg]; exact (below_size (by repeat (first | (with_reducible first | exact HB.out | apply below_alloc | apply pw_below_drewN | apply below_drew1) | exact HB.out))) : w.heap.size ≤ gb942)); have n3_ := Aside0.mk ((show IsS93 w w12 gb942 a0 0 0 from ⟨hbox, (by rw [hg]; exact (below_size (by repeat (first | (with_reducible first | exact HB.out | apply below_alloc | apply pw_below_drewN | apply below_drew1) | exact HB.out))) : w.heap.size ≤ gb942)⟩)); clear HB; have HB := n0_; have GW942 := n1_; have GE942 := n2_; have HI942 := n3_; clear n0_ n1_ n2_ n3_; clear hb hbox hg) | (go_at_call 85; (with_reducible refine (bonsairef03_Reader_Num.calls k gb942 a0 0 0 t943 t944 t945 t946 w _ ?side1 ?side2 A6.out).mono ?_); (case side1 => repeat (first | (with_reducible first | exact HI942.out | apply IsS93.alloc | apply IsS93.drewN | apply IsS93.drew | apply IsS93.set_0 | apply IsS93.set_1 | apply IsS93.set_2) | exact HI942.out)); (case side2 => repeat (first | (with_reducible first | exact HB.out | apply below_alloc | apply pw_below_drewN | apply below_drew1 | refine below_set ?_ (IsS93.ge HI942.out)) | exact HB.out)); rintro e w13 ⟨rfl, hi, hb, hk⟩; have n0_ := Aside0.mk (hb); have n1_ := Aside0.mk (hi); clear HB; clear HI942; have HB := n0_; have HI942 := n1_; clear n0_ n1_; (try clear hb); (try clear hb2); (try clear hk); (try clear hi); obtain ⟨HGz14, hgz14⟩ := HI942.out; have hcz14_0 := cellS93_0 HGz14; have hcz14_1 := cellS93_1 HGz14; have hcz14_2 := cellS93_2 HGz14; have hfz14_0 := blk_frozen HGz14 0; have hfz14_1 := blk_frozen HGz14 1; have hfz14_2 := blk_frozen HGz14 2; clear HGz14 hgz14))
          repeat (go_quiet (first | ((with_reducible refine gate_dst (N := 26) rfl ?_); refine box_event ?hg (N := 26) ?hd (cs := #[.string a0, .int .i64 0, .int .i64 0]) (t := 93) ?hr ?_; (case hd => rfl); (case hg => rfl); (case hr => first | (go_simp; done) | (go_simp; rfl)); intro gb942 hg w12 hbox hb; have n0_ := Aside0.mk (below_step (by repeat (first | (with_reducible first | exact HB.out | apply below_alloc | apply pw_below_drewN | apply below_drew1) | exact HB.out)) hb); have n1_ := Aside0.mk ((by rw [hg]; exact (below_size (by repeat (first | (with_reducible first | exact HB.out | apply below_alloc | apply pw_below_drewN | apply below_drew1) | exact HB.out))) : w.heap.size ≤ gb942)); have n2_ := Aside0.mk ((by rw [hg]; exact (below_size (by repeat (first | (with_reducible first | exact HB.out | apply below_alloc | apply pw_below_drewN | apply below_drew1) | exact HB.out))) : w.heap.size ≤ gb942)); have n3_ := Aside0.mk ((show IsS93 w w12 gb942 a0 0 0 from ⟨hbox, (by rw [hg]; exact (below_size (by repeat (first | (with_reducible first | exact HB.out | apply below_alloc | apply pw_below_drewN | apply below_drew1) | exact HB.out))) : w.heap.size ≤ gb942)⟩)); clear HB; have HB := n0_; have GW942 := n1_; have GE942 := n2_; have HI942 := n3_; clear n0_ n1_ n2_ n3_; clear hb hbox hg) | (go_at_call 85; (with_reducible refine (bonsairef03_Reader_Num.calls k gb942 a0 0 0 t943 t944 t945 t946 w _ ?side1 ?side2 A6.out).mono ?_); (case side1 => repeat (first | (with_reducible first | exact HI942.out | apply IsS93.alloc | apply IsS93.drewN | apply IsS93.drew | apply IsS93.set_0 | apply IsS93.set_1 | apply IsS93.set_2) | exact HI942.out)); (case side2 => repeat (first | (with_reducible first | exact HB.out | apply below_alloc | apply pw_below_drewN | apply below_drew1 | refine below_set ?_ (IsS93.ge HI942.out)) | exact HB.out)); rintro e w13 ⟨rfl, hi, hb, hk⟩; have n0_ := Aside0.mk (hb); have n1_ := Aside0.mk (hi); clear HB; clear HI942; have HB := n0_; have HI942 := n1_; clear n0_ n1_; (try clear hb); (try clear hb2); (try clear hk); (try clear hi); obtain ⟨HGz14, hgz14⟩ := HI942.out; have hcz14_0 := cellS93_0 HGz14; have hcz14_1 := cellS93_1 HGz14; have hcz14_2 := cellS93_2 HGz14; have hfz14_0 := blk_frozen HGz14 0; have hfz14_1 := blk_frozen HGz14 1; have hfz14_2 := blk_frozen HGz14 2; clear HGz14 hgz14)); try go_wp2_with (first | ((with_reducible refine gate_dst (N := 26) rfl ?_); refine box_event ?hg (N := 26) ?hd (cs := #[.string a0, .int .i64 0, .int .i64 0]) (t := 93) ?hr ?_; (case hd => rfl); (case hg => rfl); (case hr => first | (go_simp; done) | (go_simp; rfl)); intro gb942 hg w12 hbox hb; have n0_ := Aside0.mk (below_step (by repeat (first | (with_reducible first | exact HB.out | apply below_alloc | apply pw_below_drewN | apply below_drew1) | exact HB.out)) hb); have n1_ := Aside0.mk ((by rw [hg]; exact (below_size (by repeat (first | (with_reducible first | exact HB.out | apply below_alloc | apply pw_below_drewN | apply below_drew1) | exact HB.out))) : w.heap.size ≤ gb942)); have n2_ := Aside0.mk ((by rw [hg]; exact (below_size (by repeat (first | (with_reducible first | exact HB.out | apply below_alloc | apply pw_below_drewN | apply below_drew1) | exact HB.out))) : w.heap.size ≤ gb942)); have n3_ := Aside0.mk ((show IsS93 w w12 gb942 a0 0 0 from ⟨hbox, (by rw [hg]; exact (below_size (by repeat (first | (with_reducible first | exact HB.out | apply below_alloc | apply pw_below_drewN | apply below_drew1) | exact HB.out))) : w.heap.size ≤ gb942)⟩)); clear HB; have HB := n0_; have GW942 := n1_; have GE942 := n2_; have HI942 := n3_; clear n0_ n1_ n2_ n3_; clear hb hbox hg) | (go_at_call 85; (with_reducible refine (bonsairef03_Reader_Num.calls k gb942 a0 0 0 t943 t944 t945 t946 w _ ?side1 ?side2 A6.out).mono ?_); (case side1 => repeat (first | (with_reducible first | exact HI942.out | apply IsS93.alloc | apply IsS93.drewN | apply IsS93.drew | apply IsS93.set_0 | apply IsS93.set_1 | apply IsS93.set_2) | exact HI942.out)); (case side2 => repeat (first | (with_reducible first | exact HB.out | apply below_alloc | apply pw_below_drewN | apply below_drew1 | refine below_set ?_ (IsS93.ge HI942.out)) | exact HB.out)); rintro e w13 ⟨rfl, hi, hb, hk⟩; have n0_ := Aside0.mk (hb); have n1_ := Aside0.mk (hi); clear HB; clear HI942; have HB := n0_; have HI942 := n1_; clear n0_ n1_; (try clear hb); (try clear hb2); (try clear hk); (try clear hi); obtain ⟨HGz14, hgz14⟩ := HI942.out; have hcz14_0 := cellS93_0 HGz14; have hcz14_1 := cellS93_1 HGz14; have hcz14_2 := cellS93_2 HGz14; have hfz14_0 := blk_frozen HGz14 0; have hfz14_1 := blk_frozen HGz14 1; have hfz14_2 := blk_frozen HGz14 2; clear HGz14 hgz14)))
          go_loopg [10, 11, 12] k (fun kq v10 v11 v12 w' => ∃ (x10_1 : List ByteArray) (x11_1 : Int) (x12_1 : Int), v11 = .int .i64 x11_1 ∧ v12 = .int .u64 x12_1 ∧ Aside0 (bonsairef08_Decode.l0 kq a0 a1 a2 t943 x10_1 x11_1 x12_1 = some (r1, r2)) ∧ Aside0 (kq ≤ k) ∧ Aside0 (Kd.R Kd.string 9 w' w.heap.size (fun _ => True) v10 x10_1) ∧ Aside0 (Below w.heap.size w w'))
          case atStart => exact ⟨(([] : List ByteArray)), (t945), (0), (by first | rfl | (simp; done) | (simp [*]; done)), (by first | rfl | (simp; done) | (simp [*]; done)), H', ⟨Nat.le_refl _⟩, ⟨by first | exact Kd.R_nil _ _ _ _ _ | exact Kd.N_nil _ _ _ _ _ | exact Kd.V_nil _ _ _ _ _ | exact Kd.Q_nil _ _ _ _ _ | exact Kd.S_nil _ _ _ _ _⟩, ⟨by repeat (first | (with_reducible first | exact HB.out | apply below_alloc | apply pw_below_drewN | apply below_drew1 | refine below_set ?_ (IsS93.ge HI942.out)) | exact HB.out)⟩⟩
          case round =>
            clear H'
            try clear p2
            try clear c4
            try clear c4b0
            try clear c5
            try clear c5b0
            try clear c7
            try clear c7b0
            try clear c7b1
            try clear c8
            try clear c8b0
            try clear hcz11_0
            try clear hcz11_1
            try clear hcz11_2
            try clear hcz14_0
            try clear hcz14_1
            try clear hcz14_2
            try clear hfz11_0
            try clear hfz11_1
            try clear hfz11_2
            try clear hfz14_0
            try clear hfz14_1
            try clear hfz14_2
            obtain ⟨x10_1, x11_1, x12_1, rfl, rfl, HA, HK1, HO_10, HB⟩ := hrel
            cases gk with
            | zero => exact absurd HA.out (by simp [bonsairef08_Decode.l0])
            | succ k1 =>
              have H := HA.out
              clear HA
              simp only [bonsairef08_Decode.l0] at H
              by_cases c15 : x12_1 < t943
              · rw [if_pos c15] at H
                have c15b0 : decide (x12_1 < t943) = true := decide_eq_true c15
                clear c15
                replace H := Option.bind_eq_some_iff.mp H
                obtain ⟨⟨t947, t948, t949⟩, A160, H⟩ := H
                replace H : (if t949 = 0 then (if x10_1.length < 8796093022208 then (bonsairef08_Decode.l0 k1 a0 a1 a2 t943 (x10_1 ++ [t947]) t948 (IntKind.u64.wrap (x12_1 + 1))) else (none)) else (some (([] : List ByteArray), t949))) = some (r1, r2) := H
                have A16 := Aside0.mk A160
                clear A160
                by_cases c17 : t949 = 0
                · rw [if_pos c17] at H
                  have c17b0 : (t949 == 0) = true := beq_iff_eq.mpr c17
                  have c17b1 : (t949 != 0) = false := bne_eq_false_iff_eq.mpr c17
                  clear c17
                  by_cases c18 : x10_1.length < 8796093022208
                  · rw [if_pos c18] at H
                    have LMc18 := Aside0.mk c18
                    clear c18
                    obtain ⟨y950, hy950⟩ : ∃ y_ : List ByteArray, y_ = (x10_1 ++ [t947]) := ⟨_, rfl⟩
                    replace H : (bonsairef08_Decode.l0 k1 a0 a1 a2 t943 y950 t948 (IntKind.u64.wrap (x12_1 + 1))) = some (r1, r2) := by first | (rw [hy950]; with_reducible exact H) | (have H2_ := (Option.bind_some _ _).symm.trans H; rw [hy950]; with_reducible exact H2_) | (have H2_ := (Option.bind_some _ _).symm.trans H; with_reducible exact H2_) | with_reducible exact H | (rw [hy950]; exact H) | exact H
                    have Ny950 := Aside0.mk hy950
                    clear hy950
                    have H' := Aside0.mk H
                    clear H
                    go_wp2_with (first | (go_at_call 36; (with_reducible refine (bonsairef04_Take.calls k1 a0 x11_1 a2 t947 t948 t949 _ A16.out).mono ?_); rintro e w19 ⟨rfl, hb⟩; have n0_ := Aside0.mk (Kd.R_below (by (with_reducible repeat (first | apply Kd.R_alloc | apply Kd.R_drewN | apply Kd.R_drew)); exact HO_10.out) hb); have n1_ := Aside0.mk (below_step (by repeat (first | (with_reducible first | exact HB.out | apply below_alloc | apply pw_below_drewN | apply below_drew1) | exact HB.out)) hb); clear HO_10; clear HB; have HO_10 := n0_; have HB := n1_; clear n0_ n1_; (try clear hb); (try clear hb2); (try clear hk); (try clear hi)) | ((with_reducible refine gate_builtin (b := .append) (xs := #[.tmp 62, .tmp 64]) rfl ?_); at_builtin; refine Kd.R_append Kd.string (w0 := w) w.heap.size rfl (.tmp 62) (.tmp 64) 35 9 (.string ⟨#[]⟩) 16 rfl Try.underlying35 info9 rfl (by decide) (by omega) u10 x10_1 t947 [.string t947] (fun _ => True) (fun _ => False) rfl rfl ?aP (fun _ hk => hk.elim) ?aF ?aO ?aB ?aS ?aL ?_; (case aP => exact rfl); (case aB => exact (by repeat (first | (with_reducible first | exact HB.out | apply below_alloc | apply pw_below_drewN | apply below_drew1) | exact HB.out))); (case aF => exact (fun _ _ => trivial)); (case aO => exact (by (with_reducible repeat (first | apply Kd.R_alloc | apply Kd.R_drewN | apply Kd.R_drew)); exact HO_10.out)); (case aS => exact (below_size (by repeat (first | (with_reducible first | exact HB.out | apply below_alloc | apply pw_below_drewN | apply below_drew1) | exact HB.out)))); (case aL => have := LMc18.out; omega); intro v951 w20 ho hb hg hat; rw [← Ny950.out] at ho; have n0_ := Aside0.mk (hb); have n1_ := Aside0.mk (ho); clear HB; clear HO_10; have HB := n0_; have HO952 := n1_; clear n0_ n1_; clear ho hb hg hat))
                    repeat (go_quiet (first | (go_at_call 36; (with_reducible refine (bonsairef04_Take.calls k1 a0 x11_1 a2 t947 t948 t949 _ A16.out).mono ?_); rintro e w19 ⟨rfl, hb⟩; have n0_ := Aside0.mk (Kd.R_below (by (with_reducible repeat (first | apply Kd.R_alloc | apply Kd.R_drewN | apply Kd.R_drew)); exact HO_10.out) hb); have n1_ := Aside0.mk (below_step (by repeat (first | (with_reducible first | exact HB.out | apply below_alloc | apply pw_below_drewN | apply below_drew1) | exact HB.out)) hb); clear HO_10; clear HB; have HO_10 := n0_; have HB := n1_; clear n0_ n1_; (try clear hb); (try clear hb2); (try clear hk); (try clear hi)) | ((with_reducible refine gate_builtin (b := .append) (xs := #[.tmp 62, .tmp 64]) rfl ?_); at_builtin; refine Kd.R_append Kd.string (w0 := w) w.heap.size rfl (.tmp 62) (.tmp 64) 35 9 (.string ⟨#[]⟩) 16 rfl Try.underlying35 info9 rfl (by decide) (by omega) u10 x10_1 t947 [.string t947] (fun _ => True) (fun _ => False) rfl rfl ?aP (fun _ hk => hk.elim) ?aF ?aO ?aB ?aS ?aL ?_; (case aP => exact rfl); (case aB => exact (by repeat (first | (with_reducible first | exact HB.out | apply below_alloc | apply pw_below_drewN | apply below_drew1) | exact HB.out))); (case aF => exact (fun _ _ => trivial)); (case aO => exact (by (with_reducible repeat (first | apply Kd.R_alloc | apply Kd.R_drewN | apply Kd.R_drew)); exact HO_10.out)); (case aS => exact (below_size (by repeat (first | (with_reducible first | exact HB.out | apply below_alloc | apply pw_below_drewN | apply below_drew1) | exact HB.out)))); (case aL => have := LMc18.out; omega); intro v951 w20 ho hb hg hat; rw [← Ny950.out] at ho; have n0_ := Aside0.mk (hb); have n1_ := Aside0.mk (ho); clear HB; clear HO_10; have HB := n0_; have HO952 := n1_; clear n0_ n1_; clear ho hb hg hat)); try go_wp2_with (first | (go_at_call 36; (with_reducible refine (bonsairef04_Take.calls k1 a0 x11_1 a2 t947 t948 t949 _ A16.out).mono ?_); rintro e w19 ⟨rfl, hb⟩; have n0_ := Aside0.mk (Kd.R_below (by (with_reducible repeat (first | apply Kd.R_alloc | apply Kd.R_drewN | apply Kd.R_drew)); exact HO_10.out) hb); have n1_ := Aside0.mk (below_step (by repeat (first | (with_reducible first | exact HB.out | apply below_alloc | apply pw_below_drewN | apply below_drew1) | exact HB.out)) hb); clear HO_10; clear HB; have HO_10 := n0_; have HB := n1_; clear n0_ n1_; (try clear hb); (try clear hb2); (try clear hk); (try clear hi)) | ((with_reducible refine gate_builtin (b := .append) (xs := #[.tmp 62, .tmp 64]) rfl ?_); at_builtin; refine Kd.R_append Kd.string (w0 := w) w.heap.size rfl (.tmp 62) (.tmp 64) 35 9 (.string ⟨#[]⟩) 16 rfl Try.underlying35 info9 rfl (by decide) (by omega) u10 x10_1 t947 [.string t947] (fun _ => True) (fun _ => False) rfl rfl ?aP (fun _ hk => hk.elim) ?aF ?aO ?aB ?aS ?aL ?_; (case aP => exact rfl); (case aB => exact (by repeat (first | (with_reducible first | exact HB.out | apply below_alloc | apply pw_below_drewN | apply below_drew1) | exact HB.out))); (case aF => exact (fun _ _ => trivial)); (case aO => exact (by (with_reducible repeat (first | apply Kd.R_alloc | apply Kd.R_drewN | apply Kd.R_drew)); exact HO_10.out)); (case aS => exact (below_size (by repeat (first | (with_reducible first | exact HB.out | apply below_alloc | apply pw_below_drewN | apply below_drew1) | exact HB.out)))); (case aL => have := LMc18.out; omega); intro v951 w20 ho hb hg hat; rw [← Ny950.out] at ho; have n0_ := Aside0.mk (hb); have n1_ := Aside0.mk (ho); clear HB; clear HO_10; have HB := n0_; have HO952 := n1_; clear n0_ n1_; clear ho hb hg hat)))
                    go_roundg k1
                    case measure => have := HK1.out; omega
                    case rel => exact ⟨(y950), (t948), (IntKind.u64.wrap (x12_1 + 1)), (by first | rfl | (simp; done) | (simp [*]; done)), (by first | rfl | (simp; done) | (simp [*]; done)), H', ⟨by have := HK1.out; omega⟩, ⟨by (with_reducible repeat (first | apply Kd.R_alloc | apply Kd.R_drewN | apply Kd.R_drew)); exact HO952.out⟩, ⟨by repeat (first | (with_reducible first | exact HB.out | apply below_alloc | apply pw_below_drewN | apply below_drew1) | exact HB.out)⟩⟩
                  · rw [if_neg c18] at H
                    exact absurd H (by simp)
                · rw [if_neg c17] at H
                  have c17b0 : (t949 == 0) = false := beq_eq_false_iff_ne.mpr c17
                  have c17b1 : (t949 != 0) = true := bne_iff_ne.mpr c17
                  simp only [Option.some.injEq, Prod.mk.injEq] at H
                  obtain ⟨rfl, rfl⟩ := H
                  go_wp2_with (first | (go_at_call 36; (with_reducible refine (bonsairef04_Take.calls k1 a0 x11_1 a2 t947 t948 t949 _ A16.out).mono ?_); rintro e w21 ⟨rfl, hb⟩; have n0_ := Aside0.mk (Kd.R_below (by (with_reducible repeat (first | apply Kd.R_alloc | apply Kd.R_drewN | apply Kd.R_drew)); exact HO_10.out) hb); have n1_ := Aside0.mk (below_step (by repeat (first | (with_reducible first | exact HB.out | apply below_alloc | apply pw_below_drewN | apply below_drew1) | exact HB.out)) hb); clear HO_10; clear HB; have HO_10 := n0_; have HB := n1_; clear n0_ n1_; (try clear hb); (try clear hb2); (try clear hk); (try clear hi)))
                  repeat (go_quiet (first | (go_at_call 36; (with_reducible refine (bonsairef04_Take.calls k1 a0 x11_1 a2 t947 t948 t949 _ A16.out).mono ?_); rintro e w21 ⟨rfl, hb⟩; have n0_ := Aside0.mk (Kd.R_below (by (with_reducible repeat (first | apply Kd.R_alloc | apply Kd.R_drewN | apply Kd.R_drew)); exact HO_10.out) hb); have n1_ := Aside0.mk (below_step (by repeat (first | (with_reducible first | exact HB.out | apply below_alloc | apply pw_below_drewN | apply below_drew1) | exact HB.out)) hb); clear HO_10; clear HB; have HO_10 := n0_; have HB := n1_; clear n0_ n1_; (try clear hb); (try clear hb2); (try clear hk); (try clear hi))); try go_wp2_with (first | (go_at_call 36; (with_reducible refine (bonsairef04_Take.calls k1 a0 x11_1 a2 t947 t948 t949 _ A16.out).mono ?_); rintro e w21 ⟨rfl, hb⟩; have n0_ := Aside0.mk (Kd.R_below (by (with_reducible repeat (first | apply Kd.R_alloc | apply Kd.R_drewN | apply Kd.R_drew)); exact HO_10.out) hb); have n1_ := Aside0.mk (below_step (by repeat (first | (with_reducible first | exact HB.out | apply below_alloc | apply pw_below_drewN | apply below_drew1) | exact HB.out)) hb); clear HO_10; clear HB; have HO_10 := n0_; have HB := n1_; clear n0_ n1_; (try clear hb); (try clear hb2); (try clear hk); (try clear hi))))
                  go_ret2
                  exact ⟨_, by first | rfl | (simp [errW_none, errW_some] <;> rfl) | (simp [*, errW_none, errW_some] <;> rfl), by first | exact Kd.R_nil _ _ _ _ _ | exact Kd.N_nil _ _ _ _ _ | exact Kd.V_nil _ _ _ _ _ | exact Kd.Q_nil _ _ _ _ _ | exact Kd.S_nil _ _ _ _ _, by repeat (first | (with_reducible first | exact HB.out | apply below_alloc | apply pw_below_drewN | apply below_drew1) | exact HB.out)⟩
              · rw [if_neg c15] at H
                have c15b0 : decide (x12_1 < t943) = false := decide_eq_false c15
                clear c15
                by_cases c22 : 0 ≤ x11_1
                · rw [if_pos c22] at H
                  have c22b0 := eq_true c22
                  have c22b1 : decide (0 ≤ x11_1) = true := decide_eq_true c22
                  clear c22
                  by_cases c23 : x11_1 ≤ (a0.size : Int)
                  · rw [if_pos c23] at H
                    have c23b0 := eq_true c23
                    have c23b1 : decide (x11_1 ≤ (a0.size : Int)) = true := decide_eq_true c23
                    clear c23
                    replace H := Option.bind_eq_some_iff.mp H
                    obtain ⟨⟨t953, t954⟩, A240, H⟩ := H
                    replace H : (if t954 = 0 then ((bonsairef08_May.f k1 x10_1 t953).bind fun t957 => (if t957 = true then ((bonsairef08_Pick.f k1 x10_1 t953).bind fun bt958 => (some (bt958.1, 0))) else (some (([] : List ByteArray), 5)))) else (some (([] : List ByteArray), t954))) = some (r1, r2) := H
                    have A24 := Aside0.mk A240
                    clear A240
                    by_cases c25 : t954 = 0
                    · rw [if_pos c25] at H
                      have c25b0 : (t954 == 0) = true := beq_iff_eq.mpr c25
                      have c25b1 : (t954 != 0) = false := bne_eq_false_iff_eq.mpr c25
                      clear c25
                      replace H := Option.bind_eq_some_iff.mp H
                      obtain ⟨t957, A260, H⟩ := H
                      replace H : (if t957 = true then ((bonsairef08_Pick.f k1 x10_1 t953).bind fun bt958 => (some (bt958.1, 0))) else (some (([] : List ByteArray), 5))) = some (r1, r2) := H
                      have A26 := Aside0.mk A260
                      clear A260
                      by_cases c27 : t957 = true
                      · subst c27
                        have H1 : ((bonsairef08_Pick.f k1 x10_1 t953).bind fun bt958 => (some (bt958.1, 0))) = some (r1, r2) := by rw [if_pos rfl] at H; exact H
                        clear H
                        have H := H1
                        clear H1
                        replace H := Option.bind_eq_some_iff.mp H
                        obtain ⟨⟨t958, t959⟩, A280, H⟩ := H
                        replace H : (some (t958, 0)) = some (r1, r2) := H
                        have A28 := Aside0.mk A280
                        clear A280
                        simp only [Option.some.injEq, Prod.mk.injEq] at H
                        obtain ⟨rfl, rfl⟩ := H
                        go_wp2_with (first | (go_at_call 50; (with_reducible refine (bonsairef06_Decode.calls k1 (a0.extract (x11_1 : Int).toNat a0.size) a1 t953 t954 _ A24.out).mono ?_); rintro e w29 ⟨v955, rfl, ho0, hb⟩; have n0_ := Aside0.mk (Kd.R_below (by (with_reducible repeat (first | apply Kd.R_alloc | apply Kd.R_drewN | apply Kd.R_drew)); exact HO_10.out) hb); have n1_ := Aside0.mk (Kd.R_lower ho0 (below_size (by repeat (first | (with_reducible first | exact HB.out | apply below_alloc | apply pw_below_drewN | apply below_drew1) | exact HB.out)))); have n2_ := Aside0.mk (below_step (by repeat (first | (with_reducible first | exact HB.out | apply below_alloc | apply pw_below_drewN | apply below_drew1) | exact HB.out)) hb); clear HO_10; clear HB; have HO_10 := n0_; have HO956 := n1_; have HB := n2_; clear n0_ n1_ n2_; (try clear hb); (try clear hb2); (try clear hk); (try clear hi); (try clear ho0); obtain ⟨Ao30, co30, eo30⟩ := Kd.R_slice HO_10.out; subst eo30; obtain ⟨Ao31, co31, eo31⟩ := Kd.R_slice HO956.out; subst eo31) | (go_at_call 73; (with_reducible refine (bonsairef08_May.calls k1 _ _ x10_1 _ _ t953 true _ ?side1 ?side2 ?side3 ?side4 A26.out).mono ?_); (case side1 => repeat (first | exact (Kd.R_reads' HO_10.out).2.2 | (with_reducible refine Kd.C_alloc ?_ _) | (with_reducible refine Kd.C_drewN ?_ _) | (with_reducible refine Kd.C_drew ?_))); (case side2 => exact (Kd.R_reads' HO_10.out).2.1); (case side3 => repeat (first | exact (Kd.R_reads' HO956.out).2.2 | (with_reducible refine Kd.C_alloc ?_ _) | (with_reducible refine Kd.C_drewN ?_ _) | (with_reducible refine Kd.C_drew ?_))); (case side4 => exact (Kd.R_reads' HO956.out).2.1); rintro e w32 ⟨rfl, hb⟩; have n0_ := Aside0.mk (Kd.R_below (by (with_reducible repeat (first | apply Kd.R_alloc | apply Kd.R_drewN | apply Kd.R_drew)); exact HO_10.out) hb); have n1_ := Aside0.mk (Kd.R_below (by (with_reducible repeat (first | apply Kd.R_alloc | apply Kd.R_drewN | apply Kd.R_drew)); exact HO956.out) hb); have n2_ := Aside0.mk (below_step (by repeat (first | (with_reducible first | exact HB.out | apply below_alloc | apply pw_below_drewN | apply below_drew1) | exact HB.out)) hb); clear HO_10; clear HO956; clear HB; have HO_10 := n0_; have HO956 := n1_; have HB := n2_; clear n0_ n1_ n2_; (try clear hb); (try clear hb2); (try clear hk); (try clear hi)) | (go_at_call 68; (with_reducible refine (bonsairef08_Pick.calls k1 _ _ x10_1 _ _ t953 t958 t959 _ ?side1 ?side2 ?side3 ?side4 A28.out).mono ?_); (case side1 => repeat (first | exact (Kd.R_reads' HO_10.out).2.2 | (with_reducible refine Kd.C_alloc ?_ _) | (with_reducible refine Kd.C_drewN ?_ _) | (with_reducible refine Kd.C_drew ?_))); (case side2 => exact (Kd.R_reads' HO_10.out).2.1); (case side3 => repeat (first | exact (Kd.R_reads' HO956.out).2.2 | (with_reducible refine Kd.C_alloc ?_ _) | (with_reducible refine Kd.C_drewN ?_ _) | (with_reducible refine Kd.C_drew ?_))); (case side4 => exact (Kd.R_reads' HO956.out).2.1); rintro e w33 ⟨v960, rfl, ho0, hb⟩; have n0_ := Aside0.mk (Kd.R_elder' (by (with_reducible repeat (first | apply Kd.R_alloc | apply Kd.R_drewN | apply Kd.R_drew)); exact HO_10.out) (Kd.R_base ho0) hb); have n1_ := Aside0.mk (Kd.R_below (by (with_reducible repeat (first | apply Kd.R_alloc | apply Kd.R_drewN | apply Kd.R_drew)); exact HO956.out) hb); have n2_ := Aside0.mk (Kd.R_lower (Kd.R_new' ho0 (Kd.R_lt (by (with_reducible repeat (first | apply Kd.R_alloc | apply Kd.R_drewN | apply Kd.R_drew)); exact HO_10.out))) (below_size (by repeat (first | (with_reducible first | exact HB.out | apply below_alloc | apply pw_below_drewN | apply below_drew1) | exact HB.out)))); have n3_ := Aside0.mk (below_step (by repeat (first | (with_reducible first | exact HB.out | apply below_alloc | apply pw_below_drewN | apply below_drew1) | exact HB.out)) hb); clear HO_10; clear HO956; clear HB; have HO_10 := n0_; have HO956 := n1_; have HO961 := n2_; have HB := n3_; clear n0_ n1_ n2_ n3_; (try clear hb); (try clear hb2); (try clear hk); (try clear hi); (try clear ho0)))
                        repeat (go_quiet (first | (go_at_call 50; (with_reducible refine (bonsairef06_Decode.calls k1 (a0.extract (x11_1 : Int).toNat a0.size) a1 t953 t954 _ A24.out).mono ?_); rintro e w29 ⟨v955, rfl, ho0, hb⟩; have n0_ := Aside0.mk (Kd.R_below (by (with_reducible repeat (first | apply Kd.R_alloc | apply Kd.R_drewN | apply Kd.R_drew)); exact HO_10.out) hb); have n1_ := Aside0.mk (Kd.R_lower ho0 (below_size (by repeat (first | (with_reducible first | exact HB.out | apply below_alloc | apply pw_below_drewN | apply below_drew1) | exact HB.out)))); have n2_ := Aside0.mk (below_step (by repeat (first | (with_reducible first | exact HB.out | apply below_alloc | apply pw_below_drewN | apply below_drew1) | exact HB.out)) hb); clear HO_10; clear HB; have HO_10 := n0_; have HO956 := n1_; have HB := n2_; clear n0_ n1_ n2_; (try clear hb); (try clear hb2); (try clear hk); (try clear hi); (try clear ho0); obtain ⟨Ao30, co30, eo30⟩ := Kd.R_slice HO_10.out; subst eo30; obtain ⟨Ao31, co31, eo31⟩ := Kd.R_slice HO956.out; subst eo31) | (go_at_call 73; (with_reducible refine (bonsairef08_May.calls k1 _ _ x10_1 _ _ t953 true _ ?side1 ?side2 ?side3 ?side4 A26.out).mono ?_); (case side1 => repeat (first | exact (Kd.R_reads' HO_10.out).2.2 | (with_reducible refine Kd.C_alloc ?_ _) | (with_reducible refine Kd.C_drewN ?_ _) | (with_reducible refine Kd.C_drew ?_))); (case side2 => exact (Kd.R_reads' HO_10.out).2.1); (case side3 => repeat (first | exact (Kd.R_reads' HO956.out).2.2 | (with_reducible refine Kd.C_alloc ?_ _) | (with_reducible refine Kd.C_drewN ?_ _) | (with_reducible refine Kd.C_drew ?_))); (case side4 => exact (Kd.R_reads' HO956.out).2.1); rintro e w32 ⟨rfl, hb⟩; have n0_ := Aside0.mk (Kd.R_below (by (with_reducible repeat (first | apply Kd.R_alloc | apply Kd.R_drewN | apply Kd.R_drew)); exact HO_10.out) hb); have n1_ := Aside0.mk (Kd.R_below (by (with_reducible repeat (first | apply Kd.R_alloc | apply Kd.R_drewN | apply Kd.R_drew)); exact HO956.out) hb); have n2_ := Aside0.mk (below_step (by repeat (first | (with_reducible first | exact HB.out | apply below_alloc | apply pw_below_drewN | apply below_drew1) | exact HB.out)) hb); clear HO_10; clear HO956; clear HB; have HO_10 := n0_; have HO956 := n1_; have HB := n2_; clear n0_ n1_ n2_; (try clear hb); (try clear hb2); (try clear hk); (try clear hi)) | (go_at_call 68; (with_reducible refine (bonsairef08_Pick.calls k1 _ _ x10_1 _ _ t953 t958 t959 _ ?side1 ?side2 ?side3 ?side4 A28.out).mono ?_); (case side1 => repeat (first | exact (Kd.R_reads' HO_10.out).2.2 | (with_reducible refine Kd.C_alloc ?_ _) | (with_reducible refine Kd.C_drewN ?_ _) | (with_reducible refine Kd.C_drew ?_))); (case side2 => exact (Kd.R_reads' HO_10.out).2.1); (case side3 => repeat (first | exact (Kd.R_reads' HO956.out).2.2 | (with_reducible refine Kd.C_alloc ?_ _) | (with_reducible refine Kd.C_drewN ?_ _) | (with_reducible refine Kd.C_drew ?_))); (case side4 => exact (Kd.R_reads' HO956.out).2.1); rintro e w33 ⟨v960, rfl, ho0, hb⟩; have n0_ := Aside0.mk (Kd.R_elder' (by (with_reducible repeat (first | apply Kd.R_alloc | apply Kd.R_drewN | apply Kd.R_drew)); exact HO_10.out) (Kd.R_base ho0) hb); have n1_ := Aside0.mk (Kd.R_below (by (with_reducible repeat (first | apply Kd.R_alloc | apply Kd.R_drewN | apply Kd.R_drew)); exact HO956.out) hb); have n2_ := Aside0.mk (Kd.R_lower (Kd.R_new' ho0 (Kd.R_lt (by (with_reducible repeat (first | apply Kd.R_alloc | apply Kd.R_drewN | apply Kd.R_drew)); exact HO_10.out))) (below_size (by repeat (first | (with_reducible first | exact HB.out | apply below_alloc | apply pw_below_drewN | apply below_drew1) | exact HB.out)))); have n3_ := Aside0.mk (below_step (by repeat (first | (with_reducible first | exact HB.out | apply below_alloc | apply pw_below_drewN | apply below_drew1) | exact HB.out)) hb); clear HO_10; clear HO956; clear HB; have HO_10 := n0_; have HO956 := n1_; have HO961 := n2_; have HB := n3_; clear n0_ n1_ n2_ n3_; (try clear hb); (try clear hb2); (try clear hk); (try clear hi); (try clear ho0))); try go_wp2_with (first | (go_at_call 50; (with_reducible refine (bonsairef06_Decode.calls k1 (a0.extract (x11_1 : Int).toNat a0.size) a1 t953 t954 _ A24.out).mono ?_); rintro e w29 ⟨v955, rfl, ho0, hb⟩; have n0_ := Aside0.mk (Kd.R_below (by (with_reducible repeat (first | apply Kd.R_alloc | apply Kd.R_drewN | apply Kd.R_drew)); exact HO_10.out) hb); have n1_ := Aside0.mk (Kd.R_lower ho0 (below_size (by repeat (first | (with_reducible first | exact HB.out | apply below_alloc | apply pw_below_drewN | apply below_drew1) | exact HB.out)))); have n2_ := Aside0.mk (below_step (by repeat (first | (with_reducible first | exact HB.out | apply below_alloc | apply pw_below_drewN | apply below_drew1) | exact HB.out)) hb); clear HO_10; clear HB; have HO_10 := n0_; have HO956 := n1_; have HB := n2_; clear n0_ n1_ n2_; (try clear hb); (try clear hb2); (try clear hk); (try clear hi); (try clear ho0); obtain ⟨Ao30, co30, eo30⟩ := Kd.R_slice HO_10.out; subst eo30; obtain ⟨Ao31, co31, eo31⟩ := Kd.R_slice HO956.out; subst eo31) | (go_at_call 73; (with_reducible refine (bonsairef08_May.calls k1 _ _ x10_1 _ _ t953 true _ ?side1 ?side2 ?side3 ?side4 A26.out).mono ?_); (case side1 => repeat (first | exact (Kd.R_reads' HO_10.out).2.2 | (with_reducible refine Kd.C_alloc ?_ _) | (with_reducible refine Kd.C_drewN ?_ _) | (with_reducible refine Kd.C_drew ?_))); (case side2 => exact (Kd.R_reads' HO_10.out).2.1); (case side3 => repeat (first | exact (Kd.R_reads' HO956.out).2.2 | (with_reducible refine Kd.C_alloc ?_ _) | (with_reducible refine Kd.C_drewN ?_ _) | (with_reducible refine Kd.C_drew ?_))); (case side4 => exact (Kd.R_reads' HO956.out).2.1); rintro e w32 ⟨rfl, hb⟩; have n0_ := Aside0.mk (Kd.R_below (by (with_reducible repeat (first | apply Kd.R_alloc | apply Kd.R_drewN | apply Kd.R_drew)); exact HO_10.out) hb); have n1_ := Aside0.mk (Kd.R_below (by (with_reducible repeat (first | apply Kd.R_alloc | apply Kd.R_drewN | apply Kd.R_drew)); exact HO956.out) hb); have n2_ := Aside0.mk (below_step (by repeat (first | (with_reducible first | exact HB.out | apply below_alloc | apply pw_below_drewN | apply below_drew1) | exact HB.out)) hb); clear HO_10; clear HO956; clear HB; have HO_10 := n0_; have HO956 := n1_; have HB := n2_; clear n0_ n1_ n2_; (try clear hb); (try clear hb2); (try clear hk); (try clear hi)) | (go_at_call 68; (with_reducible refine (bonsairef08_Pick.calls k1 _ _ x10_1 _ _ t953 t958 t959 _ ?side1 ?side2 ?side3 ?side4 A28.out).mono ?_); (case side1 => repeat (first | exact (Kd.R_reads' HO_10.out).2.2 | (with_reducible refine Kd.C_alloc ?_ _) | (with_reducible refine Kd.C_drewN ?_ _) | (with_reducible refine Kd.C_drew ?_))); (case side2 => exact (Kd.R_reads' HO_10.out).2.1); (case side3 => repeat (first | exact (Kd.R_reads' HO956.out).2.2 | (with_reducible refine Kd.C_alloc ?_ _) | (with_reducible refine Kd.C_drewN ?_ _) | (with_reducible refine Kd.C_drew ?_))); (case side4 => exact (Kd.R_reads' HO956.out).2.1); rintro e w33 ⟨v960, rfl, ho0, hb⟩; have n0_ := Aside0.mk (Kd.R_elder' (by (with_reducible repeat (first | apply Kd.R_alloc | apply Kd.R_drewN | apply Kd.R_drew)); exact HO_10.out) (Kd.R_base ho0) hb); have n1_ := Aside0.mk (Kd.R_below (by (with_reducible repeat (first | apply Kd.R_alloc | apply Kd.R_drewN | apply Kd.R_drew)); exact HO956.out) hb); have n2_ := Aside0.mk (Kd.R_lower (Kd.R_new' ho0 (Kd.R_lt (by (with_reducible repeat (first | apply Kd.R_alloc | apply Kd.R_drewN | apply Kd.R_drew)); exact HO_10.out))) (below_size (by repeat (first | (with_reducible first | exact HB.out | apply below_alloc | apply pw_below_drewN | apply below_drew1) | exact HB.out)))); have n3_ := Aside0.mk (below_step (by repeat (first | (with_reducible first | exact HB.out | apply below_alloc | apply pw_below_drewN | apply below_drew1) | exact HB.out)) hb); clear HO_10; clear HO956; clear HB; have HO_10 := n0_; have HO956 := n1_; have HO961 := n2_; have HB := n3_; clear n0_ n1_ n2_ n3_; (try clear hb); (try clear hb2); (try clear hk); (try clear hi); (try clear ho0))))
                        go_ret2
                        exact ⟨_, by first | rfl | (simp [errW_none, errW_some] <;> rfl) | (simp [*, errW_none, errW_some] <;> rfl), by (with_reducible repeat (first | apply Kd.R_alloc | apply Kd.R_drewN | apply Kd.R_drew)); exact Kd.R_mono HO961.out (fun _ hk => trivial), by repeat (first | (with_reducible first | exact HB.out | apply below_alloc | apply pw_below_drewN | apply below_drew1) | exact HB.out)⟩
                      · replace c27 := Bool.eq_false_iff.mpr c27
                        subst c27
                        have H1 : (some (([] : List ByteArray), 5)) = some (r1, r2) := by rw [if_neg (show ¬ (false = true) by decide)] at H; exact H
                        clear H
                        have H := H1
                        clear H1
                        simp only [Option.some.injEq, Prod.mk.injEq] at H
                        obtain ⟨rfl, rfl⟩ := H
                        go_wp2_with (first | (go_at_call 50; (with_reducible refine (bonsairef06_Decode.calls k1 (a0.extract (x11_1 : Int).toNat a0.size) a1 t953 t954 _ A24.out).mono ?_); rintro e w34 ⟨v955, rfl, ho0, hb⟩; have n0_ := Aside0.mk (Kd.R_below (by (with_reducible repeat (first | apply Kd.R_alloc | apply Kd.R_drewN | apply Kd.R_drew)); exact HO_10.out) hb); have n1_ := Aside0.mk (Kd.R_lower ho0 (below_size (by repeat (first | (with_reducible first | exact HB.out | apply below_alloc | apply pw_below_drewN | apply below_drew1) | exact HB.out)))); have n2_ := Aside0.mk (below_step (by repeat (first | (with_reducible first | exact HB.out | apply below_alloc | apply pw_below_drewN | apply below_drew1) | exact HB.out)) hb); clear HO_10; clear HB; have HO_10 := n0_; have HO956 := n1_; have HB := n2_; clear n0_ n1_ n2_; (try clear hb); (try clear hb2); (try clear hk); (try clear hi); (try clear ho0); obtain ⟨Ao35, co35, eo35⟩ := Kd.R_slice HO_10.out; subst eo35; obtain ⟨Ao36, co36, eo36⟩ := Kd.R_slice HO956.out; subst eo36) | (go_at_call 73; (with_reducible refine (bonsairef08_May.calls k1 _ _ x10_1 _ _ t953 false _ ?side1 ?side2 ?side3 ?side4 A26.out).mono ?_); (case side1 => repeat (first | exact (Kd.R_reads' HO_10.out).2.2 | (with_reducible refine Kd.C_alloc ?_ _) | (with_reducible refine Kd.C_drewN ?_ _) | (with_reducible refine Kd.C_drew ?_))); (case side2 => exact (Kd.R_reads' HO_10.out).2.1); (case side3 => repeat (first | exact (Kd.R_reads' HO956.out).2.2 | (with_reducible refine Kd.C_alloc ?_ _) | (with_reducible refine Kd.C_drewN ?_ _) | (with_reducible refine Kd.C_drew ?_))); (case side4 => exact (Kd.R_reads' HO956.out).2.1); rintro e w37 ⟨rfl, hb⟩; have n0_ := Aside0.mk (Kd.R_below (by (with_reducible repeat (first | apply Kd.R_alloc | apply Kd.R_drewN | apply Kd.R_drew)); exact HO_10.out) hb); have n1_ := Aside0.mk (Kd.R_below (by (with_reducible repeat (first | apply Kd.R_alloc | apply Kd.R_drewN | apply Kd.R_drew)); exact HO956.out) hb); have n2_ := Aside0.mk (below_step (by repeat (first | (with_reducible first | exact HB.out | apply below_alloc | apply pw_below_drewN | apply below_drew1) | exact HB.out)) hb); clear HO_10; clear HO956; clear HB; have HO_10 := n0_; have HO956 := n1_; have HB := n2_; clear n0_ n1_ n2_; (try clear hb); (try clear hb2); (try clear hk); (try clear hi)))
                        repeat (go_quiet (first | (go_at_call 50; (with_reducible refine (bonsairef06_Decode.calls k1 (a0.extract (x11_1 : Int).toNat a0.size) a1 t953 t954 _ A24.out).mono ?_); rintro e w34 ⟨v955, rfl, ho0, hb⟩; have n0_ := Aside0.mk (Kd.R_below (by (with_reducible repeat (first | apply Kd.R_alloc | apply Kd.R_drewN | apply Kd.R_drew)); exact HO_10.out) hb); have n1_ := Aside0.mk (Kd.R_lower ho0 (below_size (by repeat (first | (with_reducible first | exact HB.out | apply below_alloc | apply pw_below_drewN | apply below_drew1) | exact HB.out)))); have n2_ := Aside0.mk (below_step (by repeat (first | (with_reducible first | exact HB.out | apply below_alloc | apply pw_below_drewN | apply below_drew1) | exact HB.out)) hb); clear HO_10; clear HB; have HO_10 := n0_; have HO956 := n1_; have HB := n2_; clear n0_ n1_ n2_; (try clear hb); (try clear hb2); (try clear hk); (try clear hi); (try clear ho0); obtain ⟨Ao35, co35, eo35⟩ := Kd.R_slice HO_10.out; subst eo35; obtain ⟨Ao36, co36, eo36⟩ := Kd.R_slice HO956.out; subst eo36) | (go_at_call 73; (with_reducible refine (bonsairef08_May.calls k1 _ _ x10_1 _ _ t953 false _ ?side1 ?side2 ?side3 ?side4 A26.out).mono ?_); (case side1 => repeat (first | exact (Kd.R_reads' HO_10.out).2.2 | (with_reducible refine Kd.C_alloc ?_ _) | (with_reducible refine Kd.C_drewN ?_ _) | (with_reducible refine Kd.C_drew ?_))); (case side2 => exact (Kd.R_reads' HO_10.out).2.1); (case side3 => repeat (first | exact (Kd.R_reads' HO956.out).2.2 | (with_reducible refine Kd.C_alloc ?_ _) | (with_reducible refine Kd.C_drewN ?_ _) | (with_reducible refine Kd.C_drew ?_))); (case side4 => exact (Kd.R_reads' HO956.out).2.1); rintro e w37 ⟨rfl, hb⟩; have n0_ := Aside0.mk (Kd.R_below (by (with_reducible repeat (first | apply Kd.R_alloc | apply Kd.R_drewN | apply Kd.R_drew)); exact HO_10.out) hb); have n1_ := Aside0.mk (Kd.R_below (by (with_reducible repeat (first | apply Kd.R_alloc | apply Kd.R_drewN | apply Kd.R_drew)); exact HO956.out) hb); have n2_ := Aside0.mk (below_step (by repeat (first | (with_reducible first | exact HB.out | apply below_alloc | apply pw_below_drewN | apply below_drew1) | exact HB.out)) hb); clear HO_10; clear HO956; clear HB; have HO_10 := n0_; have HO956 := n1_; have HB := n2_; clear n0_ n1_ n2_; (try clear hb); (try clear hb2); (try clear hk); (try clear hi))); try go_wp2_with (first | (go_at_call 50; (with_reducible refine (bonsairef06_Decode.calls k1 (a0.extract (x11_1 : Int).toNat a0.size) a1 t953 t954 _ A24.out).mono ?_); rintro e w34 ⟨v955, rfl, ho0, hb⟩; have n0_ := Aside0.mk (Kd.R_below (by (with_reducible repeat (first | apply Kd.R_alloc | apply Kd.R_drewN | apply Kd.R_drew)); exact HO_10.out) hb); have n1_ := Aside0.mk (Kd.R_lower ho0 (below_size (by repeat (first | (with_reducible first | exact HB.out | apply below_alloc | apply pw_below_drewN | apply below_drew1) | exact HB.out)))); have n2_ := Aside0.mk (below_step (by repeat (first | (with_reducible first | exact HB.out | apply below_alloc | apply pw_below_drewN | apply below_drew1) | exact HB.out)) hb); clear HO_10; clear HB; have HO_10 := n0_; have HO956 := n1_; have HB := n2_; clear n0_ n1_ n2_; (try clear hb); (try clear hb2); (try clear hk); (try clear hi); (try clear ho0); obtain ⟨Ao35, co35, eo35⟩ := Kd.R_slice HO_10.out; subst eo35; obtain ⟨Ao36, co36, eo36⟩ := Kd.R_slice HO956.out; subst eo36) | (go_at_call 73; (with_reducible refine (bonsairef08_May.calls k1 _ _ x10_1 _ _ t953 false _ ?side1 ?side2 ?side3 ?side4 A26.out).mono ?_); (case side1 => repeat (first | exact (Kd.R_reads' HO_10.out).2.2 | (with_reducible refine Kd.C_alloc ?_ _) | (with_reducible refine Kd.C_drewN ?_ _) | (with_reducible refine Kd.C_drew ?_))); (case side2 => exact (Kd.R_reads' HO_10.out).2.1); (case side3 => repeat (first | exact (Kd.R_reads' HO956.out).2.2 | (with_reducible refine Kd.C_alloc ?_ _) | (with_reducible refine Kd.C_drewN ?_ _) | (with_reducible refine Kd.C_drew ?_))); (case side4 => exact (Kd.R_reads' HO956.out).2.1); rintro e w37 ⟨rfl, hb⟩; have n0_ := Aside0.mk (Kd.R_below (by (with_reducible repeat (first | apply Kd.R_alloc | apply Kd.R_drewN | apply Kd.R_drew)); exact HO_10.out) hb); have n1_ := Aside0.mk (Kd.R_below (by (with_reducible repeat (first | apply Kd.R_alloc | apply Kd.R_drewN | apply Kd.R_drew)); exact HO956.out) hb); have n2_ := Aside0.mk (below_step (by repeat (first | (with_reducible first | exact HB.out | apply below_alloc | apply pw_below_drewN | apply below_drew1) | exact HB.out)) hb); clear HO_10; clear HO956; clear HB; have HO_10 := n0_; have HO956 := n1_; have HB := n2_; clear n0_ n1_ n2_; (try clear hb); (try clear hb2); (try clear hk); (try clear hi))))
                        go_ret2
                        exact ⟨_, by first | rfl | (simp [errW_none, errW_some] <;> rfl) | (simp [*, errW_none, errW_some] <;> rfl), by first | exact Kd.R_nil _ _ _ _ _ | exact Kd.N_nil _ _ _ _ _ | exact Kd.V_nil _ _ _ _ _ | exact Kd.Q_nil _ _ _ _ _ | exact Kd.S_nil _ _ _ _ _, by repeat (first | (with_reducible first | exact HB.out | apply below_alloc | apply pw_below_drewN | apply below_drew1) | exact HB.out)⟩
                    · rw [if_neg c25] at H
                      have c25b0 : (t954 == 0) = false := beq_eq_false_iff_ne.mpr c25
                      have c25b1 : (t954 != 0) = true := bne_iff_ne.mpr c25
                      simp only [Option.some.injEq, Prod.mk.injEq] at H
                      obtain ⟨rfl, rfl⟩ := H
                      go_wp2_with (first | (go_at_call 50; (with_reducible refine (bonsairef06_Decode.calls k1 (a0.extract (x11_1 : Int).toNat a0.size) a1 t953 t954 _ A24.out).mono ?_); rintro e w38 ⟨v955, rfl, ho0, hb⟩; have n0_ := Aside0.mk (Kd.R_below (by (with_reducible repeat (first | apply Kd.R_alloc | apply Kd.R_drewN | apply Kd.R_drew)); exact HO_10.out) hb); have n1_ := Aside0.mk (Kd.R_lower ho0 (below_size (by repeat (first | (with_reducible first | exact HB.out | apply below_alloc | apply pw_below_drewN | apply below_drew1) | exact HB.out)))); have n2_ := Aside0.mk (below_step (by repeat (first | (with_reducible first | exact HB.out | apply below_alloc | apply pw_below_drewN | apply below_drew1) | exact HB.out)) hb); clear HO_10; clear HB; have HO_10 := n0_; have HO956 := n1_; have HB := n2_; clear n0_ n1_ n2_; (try clear hb); (try clear hb2); (try clear hk); (try clear hi); (try clear ho0)))
                      repeat (go_quiet (first | (go_at_call 50; (with_reducible refine (bonsairef06_Decode.calls k1 (a0.extract (x11_1 : Int).toNat a0.size) a1 t953 t954 _ A24.out).mono ?_); rintro e w38 ⟨v955, rfl, ho0, hb⟩; have n0_ := Aside0.mk (Kd.R_below (by (with_reducible repeat (first | apply Kd.R_alloc | apply Kd.R_drewN | apply Kd.R_drew)); exact HO_10.out) hb); have n1_ := Aside0.mk (Kd.R_lower ho0 (below_size (by repeat (first | (with_reducible first | exact HB.out | apply below_alloc | apply pw_below_drewN | apply below_drew1) | exact HB.out)))); have n2_ := Aside0.mk (below_step (by repeat (first | (with_reducible first | exact HB.out | apply below_alloc | apply pw_below_drewN | apply below_drew1) | exact HB.out)) hb); clear HO_10; clear HB; have HO_10 := n0_; have HO956 := n1_; have HB := n2_; clear n0_ n1_ n2_; (try clear hb); (try clear hb2); (try clear hk); (try clear hi); (try clear ho0))); try go_wp2_with (first | (go_at_call 50; (with_reducible refine (bonsairef06_Decode.calls k1 (a0.extract (x11_1 : Int).toNat a0.size) a1 t953 t954 _ A24.out).mono ?_); rintro e w38 ⟨v955, rfl, ho0, hb⟩; have n0_ := Aside0.mk (Kd.R_below (by (with_reducible repeat (first | apply Kd.R_alloc | apply Kd.R_drewN | apply Kd.R_drew)); exact HO_10.out) hb); have n1_ := Aside0.mk (Kd.R_lower ho0 (below_size (by repeat (first | (with_reducible first | exact HB.out | apply below_alloc | apply pw_below_drewN | apply below_drew1) | exact HB.out)))); have n2_ := Aside0.mk (below_step (by repeat (first | (with_reducible first | exact HB.out | apply below_alloc | apply pw_below_drewN | apply below_drew1) | exact HB.out)) hb); clear HO_10; clear HB; have HO_10 := n0_; have HO956 := n1_; have HB := n2_; clear n0_ n1_ n2_; (try clear hb); (try clear hb2); (try clear hk); (try clear hi); (try clear ho0))))
                      go_ret2
                      exact ⟨_, by first | rfl | (simp [errW_none, errW_some] <;> rfl) | (simp [*, errW_none, errW_some] <;> rfl), by first | exact Kd.R_nil _ _ _ _ _ | exact Kd.N_nil _ _ _ _ _ | exact Kd.V_nil _ _ _ _ _ | exact Kd.Q_nil _ _ _ _ _ | exact Kd.S_nil _ _ _ _ _, by repeat (first | (with_reducible first | exact HB.out | apply below_alloc | apply pw_below_drewN | apply below_drew1) | exact HB.out)⟩
                  · rw [if_neg c23] at H
                    exact absurd H (by simp)
                · rw [if_neg c22] at H
                  exact absurd H (by simp)
      · rw [if_neg c7] at H
        have c7b0 : (t946 == 0) = false := beq_eq_false_iff_ne.mpr c7
        have c7b1 : (t946 != 0) = true := bne_iff_ne.mpr c7
        simp only [Option.some.injEq, Prod.mk.injEq] at H
        obtain ⟨rfl, rfl⟩ := H
        go_enter Try.func75, Try.ntmps75
        go_wp2_with (first | ((with_reducible refine gate_dst (N := 26) rfl ?_); refine box_event ?hg (N := 26) ?hd (cs := #[.string a0, .int .i64 0, .int .i64 0]) (t := 93) ?hr ?_; (case hd => rfl); (case hg => rfl); (case hr => first | (go_simp; done) | (go_simp; rfl)); intro gb942 hg w39 hbox hb; have n0_ := Aside0.mk (below_step (by repeat (first | (with_reducible first | exact HB.out | apply below_alloc | apply pw_below_drewN | apply below_drew1) | exact HB.out)) hb); have n1_ := Aside0.mk ((by rw [hg]; exact (below_size (by repeat (first | (with_reducible first | exact HB.out | apply below_alloc | apply pw_below_drewN | apply below_drew1) | exact HB.out))) : w.heap.size ≤ gb942)); have n2_ := Aside0.mk ((by rw [hg]; exact (below_size (by repeat (first | (with_reducible first | exact HB.out | apply below_alloc | apply pw_below_drewN | apply below_drew1) | exact HB.out))) : w.heap.size ≤ gb942)); have n3_ := Aside0.mk ((show IsS93 w w39 gb942 a0 0 0 from ⟨hbox, (by rw [hg]; exact (below_size (by repeat (first | (with_reducible first | exact HB.out | apply below_alloc | apply pw_below_drewN | apply below_drew1) | exact HB.out))) : w.heap.size ≤ gb942)⟩)); clear HB; have HB := n0_; have GW942 := n1_; have GE942 := n2_; have HI942 := n3_; clear n0_ n1_ n2_ n3_; clear hb hbox hg) | (go_at_call 85; (with_reducible refine (bonsairef03_Reader_Num.calls k gb942 a0 0 0 t943 t944 t945 t946 w _ ?side1 ?side2 A6.out).mono ?_); (case side1 => repeat (first | (with_reducible first | exact HI942.out | apply IsS93.alloc | apply IsS93.drewN | apply IsS93.drew | apply IsS93.set_0 | apply IsS93.set_1 | apply IsS93.set_2) | exact HI942.out)); (case side2 => repeat (first | (with_reducible first | exact HB.out | apply below_alloc | apply pw_below_drewN | apply below_drew1 | refine below_set ?_ (IsS93.ge HI942.out)) | exact HB.out)); rintro e w40 ⟨rfl, hi, hb, hk⟩; have n0_ := Aside0.mk (hb); have n1_ := Aside0.mk (hi); clear HB; clear HI942; have HB := n0_; have HI942 := n1_; clear n0_ n1_; (try clear hb); (try clear hb2); (try clear hk); (try clear hi); obtain ⟨HGz41, hgz41⟩ := HI942.out; have hcz41_0 := cellS93_0 HGz41; have hcz41_1 := cellS93_1 HGz41; have hcz41_2 := cellS93_2 HGz41; have hfz41_0 := blk_frozen HGz41 0; have hfz41_1 := blk_frozen HGz41 1; have hfz41_2 := blk_frozen HGz41 2; clear HGz41 hgz41))
        repeat (go_quiet (first | ((with_reducible refine gate_dst (N := 26) rfl ?_); refine box_event ?hg (N := 26) ?hd (cs := #[.string a0, .int .i64 0, .int .i64 0]) (t := 93) ?hr ?_; (case hd => rfl); (case hg => rfl); (case hr => first | (go_simp; done) | (go_simp; rfl)); intro gb942 hg w39 hbox hb; have n0_ := Aside0.mk (below_step (by repeat (first | (with_reducible first | exact HB.out | apply below_alloc | apply pw_below_drewN | apply below_drew1) | exact HB.out)) hb); have n1_ := Aside0.mk ((by rw [hg]; exact (below_size (by repeat (first | (with_reducible first | exact HB.out | apply below_alloc | apply pw_below_drewN | apply below_drew1) | exact HB.out))) : w.heap.size ≤ gb942)); have n2_ := Aside0.mk ((by rw [hg]; exact (below_size (by repeat (first | (with_reducible first | exact HB.out | apply below_alloc | apply pw_below_drewN | apply below_drew1) | exact HB.out))) : w.heap.size ≤ gb942)); have n3_ := Aside0.mk ((show IsS93 w w39 gb942 a0 0 0 from ⟨hbox, (by rw [hg]; exact (below_size (by repeat (first | (with_reducible first | exact HB.out | apply below_alloc | apply pw_below_drewN | apply below_drew1) | exact HB.out))) : w.heap.size ≤ gb942)⟩)); clear HB; have HB := n0_; have GW942 := n1_; have GE942 := n2_; have HI942 := n3_; clear n0_ n1_ n2_ n3_; clear hb hbox hg) | (go_at_call 85; (with_reducible refine (bonsairef03_Reader_Num.calls k gb942 a0 0 0 t943 t944 t945 t946 w _ ?side1 ?side2 A6.out).mono ?_); (case side1 => repeat (first | (with_reducible first | exact HI942.out | apply IsS93.alloc | apply IsS93.drewN | apply IsS93.drew | apply IsS93.set_0 | apply IsS93.set_1 | apply IsS93.set_2) | exact HI942.out)); (case side2 => repeat (first | (with_reducible first | exact HB.out | apply below_alloc | apply pw_below_drewN | apply below_drew1 | refine below_set ?_ (IsS93.ge HI942.out)) | exact HB.out)); rintro e w40 ⟨rfl, hi, hb, hk⟩; have n0_ := Aside0.mk (hb); have n1_ := Aside0.mk (hi); clear HB; clear HI942; have HB := n0_; have HI942 := n1_; clear n0_ n1_; (try clear hb); (try clear hb2); (try clear hk); (try clear hi); obtain ⟨HGz41, hgz41⟩ := HI942.out; have hcz41_0 := cellS93_0 HGz41; have hcz41_1 := cellS93_1 HGz41; have hcz41_2 := cellS93_2 HGz41; have hfz41_0 := blk_frozen HGz41 0; have hfz41_1 := blk_frozen HGz41 1; have hfz41_2 := blk_frozen HGz41 2; clear HGz41 hgz41)); try go_wp2_with (first | ((with_reducible refine gate_dst (N := 26) rfl ?_); refine box_event ?hg (N := 26) ?hd (cs := #[.string a0, .int .i64 0, .int .i64 0]) (t := 93) ?hr ?_; (case hd => rfl); (case hg => rfl); (case hr => first | (go_simp; done) | (go_simp; rfl)); intro gb942 hg w39 hbox hb; have n0_ := Aside0.mk (below_step (by repeat (first | (with_reducible first | exact HB.out | apply below_alloc | apply pw_below_drewN | apply below_drew1) | exact HB.out)) hb); have n1_ := Aside0.mk ((by rw [hg]; exact (below_size (by repeat (first | (with_reducible first | exact HB.out | apply below_alloc | apply pw_below_drewN | apply below_drew1) | exact HB.out))) : w.heap.size ≤ gb942)); have n2_ := Aside0.mk ((by rw [hg]; exact (below_size (by repeat (first | (with_reducible first | exact HB.out | apply below_alloc | apply pw_below_drewN | apply below_drew1) | exact HB.out))) : w.heap.size ≤ gb942)); have n3_ := Aside0.mk ((show IsS93 w w39 gb942 a0 0 0 from ⟨hbox, (by rw [hg]; exact (below_size (by repeat (first | (with_reducible first | exact HB.out | apply below_alloc | apply pw_below_drewN | apply below_drew1) | exact HB.out))) : w.heap.size ≤ gb942)⟩)); clear HB; have HB := n0_; have GW942 := n1_; have GE942 := n2_; have HI942 := n3_; clear n0_ n1_ n2_ n3_; clear hb hbox hg) | (go_at_call 85; (with_reducible refine (bonsairef03_Reader_Num.calls k gb942 a0 0 0 t943 t944 t945 t946 w _ ?side1 ?side2 A6.out).mono ?_); (case side1 => repeat (first | (with_reducible first | exact HI942.out | apply IsS93.alloc | apply IsS93.drewN | apply IsS93.drew | apply IsS93.set_0 | apply IsS93.set_1 | apply IsS93.set_2) | exact HI942.out)); (case side2 => repeat (first | (with_reducible first | exact HB.out | apply below_alloc | apply pw_below_drewN | apply below_drew1 | refine below_set ?_ (IsS93.ge HI942.out)) | exact HB.out)); rintro e w40 ⟨rfl, hi, hb, hk⟩; have n0_ := Aside0.mk (hb); have n1_ := Aside0.mk (hi); clear HB; clear HI942; have HB := n0_; have HI942 := n1_; clear n0_ n1_; (try clear hb); (try clear hb2); (try clear hk); (try clear hi); obtain ⟨HGz41, hgz41⟩ := HI942.out; have hcz41_0 := cellS93_0 HGz41; have hcz41_1 := cellS93_1 HGz41; have hcz41_2 := cellS93_2 HGz41; have hfz41_0 := blk_frozen HGz41 0; have hfz41_1 := blk_frozen HGz41 1; have hfz41_2 := blk_frozen HGz41 2; clear HGz41 hgz41)))
        go_ret2
        exact ⟨_, by first | rfl | (simp [errW_none, errW_some] <;> rfl) | (simp [*, errW_none, errW_some] <;> rfl), by first | exact Kd.R_nil _ _ _ _ _ | exact Kd.N_nil _ _ _ _ _ | exact Kd.V_nil _ _ _ _ _ | exact Kd.Q_nil _ _ _ _ _ | exact Kd.S_nil _ _ _ _ _, by repeat (first | (with_reducible first | exact HB.out | apply below_alloc | apply pw_below_drewN | apply below_drew1 | refine below_set ?_ (IsS93.ge HI942.out)) | exact HB.out)⟩
def bonsailaw08_DictReads.f (k : Nat) (a0 : ByteArray) (a1 : Int) (a2 : Int) : Option (Bool) := if (a0.size : Int) > 500 then ((bonsailaw08_live.f k).bind fun t962 => (some t962)) else ((dict_Decode.f k a0 a1 a2).bind fun bt963 => ((bonsairef08_Decode.f k a0 a1 a2).bind fun bt967 => ((bonsairef04_Same.f k bt963.1 bt967.1).bind fun t971 => (if t971 = true then (if bt963.2 = bt967.2 then ((bonsailaw08_live.f k).bind fun t972 => (some t972)) else (none)) else (none)))))
set_option maxHeartbeats 8000000 in
set_option maxRecDepth 100000 in
theorem bonsailaw08_DictReads.calls (k : Nat) (a0 : ByteArray) (a1 : Int) (a2 : Int) (r : Bool) (w : World) (h : bonsailaw08_DictReads.f k a0 a1 a2 = some r) :
    Calls Try.prog 20 #[.string a0, .int .i64 a1, .int .i64 a2] w fun e w' => e = .returned (.bool r) ∧ Below w.heap.size w w' := by
  have HB := Aside0.mk (Below.refl w.heap.size w)
  have H : (if (a0.size : Int) > 500 then ((bonsailaw08_live.f k).bind fun t962 => (some t962)) else ((dict_Decode.f k a0 a1 a2).bind fun bt963 => ((bonsairef08_Decode.f k a0 a1 a2).bind fun bt967 => ((bonsairef04_Same.f k bt963.1 bt967.1).bind fun t971 => (if t971 = true then (if bt963.2 = bt967.2 then ((bonsailaw08_live.f k).bind fun t972 => (some t972)) else (none)) else (none)))))) = some r := h
  clear h
  by_cases c4 : (a0.size : Int) > 500
  · rw [if_pos c4] at H
    have c4b0 : decide (500 < (a0.size : Int)) = true := decide_eq_true c4
    have c4b1 : decide (500 < a0.size) = true := decide_eq_true (by omega)
    clear c4
    replace H := Option.bind_eq_some_iff.mp H
    obtain ⟨t962, A50, H⟩ := H
    replace H : (some t962) = some r := H
    have A5 := Aside0.mk A50
    clear A50
    obtain rfl := Option.some.inj H
    go_enter Try.func20, Try.ntmps20
    go_wp2_with (first | ((with_reducible refine gate_callee (f := 64) rfl ?_); refine goesL_ (some 14) rfl rfl Try.func64 (by kernel_rfl) rfl #[] rfl (by (try simp only [List.map_toArray, List.map_cons, List.map_nil]); first | done | rfl | (simp only [List.length_drop, List.length_take]; rfl)) ?_; (with_reducible refine (bonsailaw08_live.calls k  t962 _ A5.out).mono ?_); rintro e w6 ⟨rfl, hb⟩; refine ⟨_, rfl, ?_⟩; have n0_ := Aside0.mk (below_step (by repeat (first | (with_reducible first | exact HB.out | apply below_alloc | apply pw_below_drewN | apply below_drew1) | exact HB.out)) hb); clear HB; have HB := n0_; clear n0_; (try clear hb); (try clear hb2); (try clear hk); (try clear hi)))
    go_ret
    exact ⟨by first | rfl | (simp [errW_none, errW_some] <;> rfl) | (simp [*, errW_none, errW_some] <;> rfl), by repeat (first | (with_reducible first | exact HB.out | apply below_alloc | apply pw_below_drewN | apply below_drew1) | exact HB.out)⟩
  · rw [if_neg c4] at H
    have c4b0 : decide (500 < (a0.size : Int)) = false := decide_eq_false c4
    have c4b1 : decide (500 < a0.size) = false := decide_eq_false (by omega)
    clear c4
    replace H := Option.bind_eq_some_iff.mp H
    obtain ⟨⟨t963, t964⟩, A70, H⟩ := H
    replace H : ((bonsairef08_Decode.f k a0 a1 a2).bind fun bt967 => ((bonsairef04_Same.f k t963 bt967.1).bind fun t971 => (if t971 = true then (if t964 = bt967.2 then ((bonsailaw08_live.f k).bind fun t972 => (some t972)) else (none)) else (none)))) = some r := H
    have A7 := Aside0.mk A70
    clear A70
    replace H := Option.bind_eq_some_iff.mp H
    obtain ⟨⟨t967, t968⟩, A80, H⟩ := H
    replace H : ((bonsairef04_Same.f k t963 t967).bind fun t971 => (if t971 = true then (if t964 = t968 then ((bonsailaw08_live.f k).bind fun t972 => (some t972)) else (none)) else (none))) = some r := H
    have A8 := Aside0.mk A80
    clear A80
    replace H := Option.bind_eq_some_iff.mp H
    obtain ⟨t971, A90, H⟩ := H
    replace H : (if t971 = true then (if t964 = t968 then ((bonsailaw08_live.f k).bind fun t972 => (some t972)) else (none)) else (none)) = some r := H
    have A9 := Aside0.mk A90
    clear A90
    by_cases c10 : t971 = true
    · subst c10
      have H1 : (if t964 = t968 then ((bonsailaw08_live.f k).bind fun t972 => (some t972)) else (none)) = some r := by rw [if_pos rfl] at H; exact H
      clear H
      have H := H1
      clear H1
      by_cases c11 : t964 = t968
      · rw [if_pos c11] at H
        have c11b0 : (t964 == t968) = true := beq_iff_eq.mpr c11
        have c11b1 : (t964 != t968) = false := bne_eq_false_iff_eq.mpr c11
        clear c11
        replace H := Option.bind_eq_some_iff.mp H
        obtain ⟨t972, A120, H⟩ := H
        replace H : (some t972) = some r := H
        have A12 := Aside0.mk A120
        clear A120
        obtain rfl := Option.some.inj H
        go_enter Try.func20, Try.ntmps20
        go_wp2_with (first | ((with_reducible refine gate_callee (f := 74) rfl ?_); refine goesL_ (some 19) rfl rfl Try.func74 (by kernel_rfl) rfl #[.string a0, .int .i64 a1, .int .i64 a2] rfl (by (try simp only [List.map_toArray, List.map_cons, List.map_nil]); first | done | rfl | (simp only [List.length_drop, List.length_take]; rfl)) ?_; (with_reducible refine (dict_Decode.calls k a0 a1 a2 t963 t964 _ A7.out).mono ?_); rintro e w13 ⟨v965, rfl, ho0, hb⟩; refine ⟨_, rfl, ?_⟩; have n0_ := Aside0.mk (Kd.R_lower ho0 (below_size (by repeat (first | (with_reducible first | exact HB.out | apply below_alloc | apply pw_below_drewN | apply below_drew1) | exact HB.out)))); have n1_ := Aside0.mk (below_step (by repeat (first | (with_reducible first | exact HB.out | apply below_alloc | apply pw_below_drewN | apply below_drew1) | exact HB.out)) hb); clear HB; have HO966 := n0_; have HB := n1_; clear n0_ n1_; (try clear hb); (try clear hb2); (try clear hk); (try clear hi); (try clear ho0)) | ((with_reducible refine gate_callee (f := 75) rfl ?_); refine goesL_ (some 26) rfl rfl Try.func75 (by kernel_rfl) rfl #[.string a0, .int .i64 a1, .int .i64 a2] rfl (by (try simp only [List.map_toArray, List.map_cons, List.map_nil]); first | done | rfl | (simp only [List.length_drop, List.length_take]; rfl)) ?_; (with_reducible refine (bonsairef08_Decode.calls k a0 a1 a2 t967 t968 _ A8.out).mono ?_); rintro e w14 ⟨v969, rfl, ho0, hb⟩; refine ⟨_, rfl, ?_⟩; have n0_ := Aside0.mk (Kd.R_elder' (by (with_reducible repeat (first | apply Kd.R_alloc | apply Kd.R_drewN | apply Kd.R_drew)); exact HO966.out) (Kd.R_base ho0) hb); have n1_ := Aside0.mk (Kd.R_lower (Kd.R_new' ho0 (Kd.R_lt (by (with_reducible repeat (first | apply Kd.R_alloc | apply Kd.R_drewN | apply Kd.R_drew)); exact HO966.out))) (below_size (by repeat (first | (with_reducible first | exact HB.out | apply below_alloc | apply pw_below_drewN | apply below_drew1) | exact HB.out)))); have n2_ := Aside0.mk (below_step (by repeat (first | (with_reducible first | exact HB.out | apply below_alloc | apply pw_below_drewN | apply below_drew1) | exact HB.out)) hb); clear HO966; clear HB; have HO966 := n0_; have HO970 := n1_; have HB := n2_; clear n0_ n1_ n2_; (try clear hb); (try clear hb2); (try clear hk); (try clear hi); (try clear ho0); obtain ⟨Ao15, co15, eo15⟩ := Kd.R_slice HO966.out; subst eo15; obtain ⟨Ao16, co16, eo16⟩ := Kd.R_slice HO970.out; subst eo16) | ((with_reducible refine gate_callee (f := 69) rfl ?_); refine goesL_ (some 31) rfl rfl Try.func69 (by kernel_rfl) rfl #[.slice Ao15 t963.length co15, .slice Ao16 t967.length co16] rfl (by (try simp only [List.map_toArray, List.map_cons, List.map_nil]); first | done | rfl | (simp only [List.length_drop, List.length_take]; rfl)) ?_; (with_reducible refine (bonsairef04_Same.calls k _ _ t963 _ _ t967 true _ ?side1 ?side2 ?side3 ?side4 A9.out).mono ?_); (case side1 => repeat (first | exact (Kd.R_reads' HO966.out).2.2 | (with_reducible refine Kd.C_alloc ?_ _) | (with_reducible refine Kd.C_drewN ?_ _) | (with_reducible refine Kd.C_drew ?_))); (case side2 => exact (Kd.R_reads' HO966.out).2.1); (case side3 => repeat (first | exact (Kd.R_reads' HO970.out).2.2 | (with_reducible refine Kd.C_alloc ?_ _) | (with_reducible refine Kd.C_drewN ?_ _) | (with_reducible refine Kd.C_drew ?_))); (case side4 => exact (Kd.R_reads' HO970.out).2.1); rintro e w' ⟨rfl, ⟨nd, rfl⟩⟩; refine ⟨_, rfl, ?_⟩) | (go_at_call 64; (with_reducible refine (bonsailaw08_live.calls k  t972 _ A12.out).mono ?_); rintro e w17 ⟨rfl, hb⟩; have n0_ := Aside0.mk (Kd.R_below (by (with_reducible repeat (first | apply Kd.R_alloc | apply Kd.R_drewN | apply Kd.R_drew)); exact HO966.out) hb); have n1_ := Aside0.mk (Kd.R_below (by (with_reducible repeat (first | apply Kd.R_alloc | apply Kd.R_drewN | apply Kd.R_drew)); exact HO970.out) hb); have n2_ := Aside0.mk (below_step (by repeat (first | (with_reducible first | exact HB.out | apply below_alloc | apply pw_below_drewN | apply below_drew1) | exact HB.out)) hb); clear HO966; clear HO970; clear HB; have HO966 := n0_; have HO970 := n1_; have HB := n2_; clear n0_ n1_ n2_; (try clear hb); (try clear hb2); (try clear hk); (try clear hi)))
        go_ret
        exact ⟨by first | rfl | (simp [errW_none, errW_some] <;> rfl) | (simp [*, errW_none, errW_some] <;> rfl), by repeat (first | (with_reducible first | exact HB.out | apply below_alloc | apply pw_below_drewN | apply below_drew1) | exact HB.out)⟩
      · rw [if_neg c11] at H
        exact absurd H (by simp)
    · replace c10 := Bool.eq_false_iff.mpr c10
      subst c10
      have H1 : (none) = some r := by rw [if_neg (show ¬ (false = true) by decide)] at H; exact H
      clear H
      have H := H1
      clear H1
      exact absurd H (by simp)
def bonsailaw08_DictReads.Pure : Prop := ∀ (a0 : ByteArray) (a1 : Int) (a2 : Int), a0.size ≤ 140737488351232 → (Lit.int .i64 a1).wf = true → (Lit.int .i64 a2).wf = true → ∃ k, bonsailaw08_DictReads.f k a0 a1 a2 = some true
theorem bonsailaw08_DictReads.walk (P : bonsailaw08_DictReads.Pure) (a0 : ByteArray) (a1 : Int) (a2 : Int) (w : World) (w0 : a0.size ≤ 140737488351232) (w1 : (Lit.int .i64 a1).wf = true) (w2 : (Lit.int .i64 a2).wf = true) :
    Calls Try.prog 20 #[.string a0, .int .i64 a1, .int .i64 a2] w fun e w' => e = .returned (.bool true) ∧ Below w.heap.size w w' := by
  obtain ⟨k, h⟩ := P a0 a1 a2 w0 w1 w2
  refine (bonsailaw08_DictReads.calls k a0 a1 a2 true w h).mono ?_
  rintro e w' ⟨rfl, hd⟩
  exact ⟨rfl, hd⟩
end Go.Proofs.Ytbgjoiccehiglaa.Print
end
section
namespace Go.Proofs.Ytbgjoiccehiglaa.LibU
open Go.RowKit Go.Proofs.Ytbgjoiccehiglaa.Print Go.Proofs.YtbgjoiccehiglaaW.PrintWords Go.Proofs.YtbgjoiccehiglaaW.PrintLast Go.Proofs.YtbgjoiccehiglaaW.PrintMore
def addR (acc : List S53) (x : Int) : List S53 :=
  match acc.getLast? with
  | some r => if r.f0 = x then acc.dropLast ++ [(⟨r.f0, r.f1 + 1⟩ : S53)] else acc ++ [(⟨x, 1⟩ : S53)]
  | none => [(⟨x, 1⟩ : S53)]
theorem addR_snoc (a : List S53) (r : S53) (x : Int) : addR (a ++ [r]) x = if r.f0 = x then a ++ [(⟨r.f0, r.f1 + 1⟩ : S53)] else a ++ [r] ++ [(⟨x, 1⟩ : S53)] := by
  unfold addR
  simp
def runs (l : List Int) : List S53 := l.foldl addR []
def spread (rs : List S53) : List Int := rs.flatMap fun r => List.replicate r.f1.toNat r.f0
theorem spread_snoc (a : List S53) (r : S53) : spread (a ++ [r]) = spread a ++ List.replicate r.f1.toNat r.f0 := by simp [spread]
inductive MayR : List S53 → Prop
  | nil : MayR []
  | one (r : S53) (h : 1 ≤ r.f1) : MayR [r]
  | snoc (a : List S53) (q r : S53) (h : MayR (a ++ [q])) (h1 : 1 ≤ r.f1) (hne : q.f0 ≠ r.f0) : MayR (a ++ [q] ++ [r])
theorem snoc_cases {α : Type} (l : List α) : l = [] ∨ ∃ a x, l = a ++ [x] := by
  rcases List.eq_nil_or_concat l with h | ⟨a, x, h⟩
  · exact .inl h
  · exact .inr ⟨a, x, by simpa using h⟩
theorem snoc_inj {α : Type} {a b : List α} {x y : α} (h : a ++ [x] = b ++ [y]) : a = b ∧ x = y := by
  have := List.append_inj' h rfl
  simpa using this
theorem MayR.last {a : List S53} {r : S53} (h : MayR (a ++ [r])) : 1 ≤ r.f1 := by
  generalize hl : a ++ [r] = l at h
  cases h with
  | nil => simp at hl
  | one q hq => obtain ⟨_, rfl⟩ := snoc_inj (b := []) hl; exact hq
  | snoc b q s h h1 hne => obtain ⟨_, rfl⟩ := snoc_inj hl; exact h1
theorem MayR.init {a : List S53} {r : S53} (h : MayR (a ++ [r])) : MayR a := by
  generalize hl : a ++ [r] = l at h
  cases h with
  | nil => simp at hl
  | one q hq => obtain ⟨rfl, _⟩ := snoc_inj (b := []) hl; exact .nil
  | snoc b q s h h1 hne => obtain ⟨rfl, _⟩ := snoc_inj hl; exact h
theorem MayR.ne {a : List S53} {q r : S53} (h : MayR (a ++ [q] ++ [r])) : q.f0 ≠ r.f0 := by
  generalize hl : a ++ [q] ++ [r] = l at h
  cases h with
  | nil => simp at hl
  | one s hs => have := congrArg List.length hl; simp at this
  | snoc b q' s h h1 hne =>
    obtain ⟨e1, rfl⟩ := snoc_inj hl
    obtain ⟨_, rfl⟩ := snoc_inj e1
    exact hne
theorem MayR.grow {a : List S53} {r : S53} (h : MayR (a ++ [r])) (n : Int) (hn : 1 ≤ n) : MayR (a ++ [(⟨r.f0, n⟩ : S53)]) := by
  rcases snoc_cases a with rfl | ⟨b, q, rfl⟩
  · exact .one _ hn
  · exact .snoc _ _ _ h.init hn h.ne
theorem MayR.add {acc : List S53} (h : MayR acc) (x : Int) : MayR (addR acc x) := by
  rcases snoc_cases acc with rfl | ⟨a, r, rfl⟩
  · exact .one _ (Int.le_refl 1)
  · rw [addR_snoc]
    split
    · exact h.grow _ (by have := h.last; omega)
    · exact .snoc _ _ _ h (Int.le_refl 1) (by assumption)
theorem runs_rep (a : List S53) (x : Int) (h : a = [] ∨ ∃ b q, a = b ++ [q] ∧ q.f0 ≠ x) : ∀ n : Nat, (List.replicate (n + 1) x).foldl addR a = a ++ [(⟨x, (n : Int) + 1⟩ : S53)]
  | 0 => by
    rcases h with rfl | ⟨b, q, rfl, hq⟩
    · rfl
    · show addR (b ++ [q]) x = _
      rw [addR_snoc, if_neg hq]; rfl
  | n + 1 => by
    rw [List.replicate_succ', List.foldl_append, runs_rep a x h n]
    show addR _ x = _
    rw [addR_snoc, if_pos rfl]
    simp
theorem runs_spread {rs : List S53} (h : MayR rs) : runs (spread rs) = rs := by
  induction h with
  | nil => rfl
  | one r h =>
    have := runs_rep [] r.f0 (.inl rfl) (r.f1.toNat - 1)
    rw [show r.f1.toNat - 1 + 1 = r.f1.toNat by omega, show (((r.f1.toNat - 1 : Nat) : Int) + 1) = r.f1 by omega] at this
    simpa [runs, spread] using this
  | snoc a q r h h1 hne ih =>
    have := runs_rep (a ++ [q]) r.f0 (.inr ⟨a, q, rfl, hne⟩) (r.f1.toNat - 1)
    rw [show r.f1.toNat - 1 + 1 = r.f1.toNat by omega, show (((r.f1.toNat - 1 : Nat) : Int) + 1) = r.f1 by omega] at this
    rw [spread_snoc]
    unfold runs at ih ⊢
    rw [List.foldl_append, ih, this]
theorem len_spread {rs : List S53} (h : MayR rs) : rs.length ≤ (spread rs).length := by
  induction h with
  | nil => simp
  | one r h => simp [spread]; omega
  | snoc a q r h h1 hne ih => rw [spread_snoc, List.length_append, List.length_append (bs := List.replicate _ _), List.length_replicate]; simp only [List.length_cons, List.length_nil]; omega
end Go.Proofs.Ytbgjoiccehiglaa.LibU
end
section
namespace Go.Proofs.Ytbgjoiccehiglaa.LibV
open Go.RowKit Go.Proofs.Ytbgjoiccehiglaa.Print Go.Proofs.YtbgjoiccehiglaaW.PrintWords Go.Proofs.YtbgjoiccehiglaaW.PrintLast Go.Proofs.YtbgjoiccehiglaaW.PrintMore Go.Proofs.Ytbgjoiccehiglaa.LibU
theorem w64 {n : Int} (h0 : -9223372036854775808 ≤ n) (h1 : n ≤ 9223372036854775807) : wrap64 n = n := by unfold wrap64; omega
theorem rd53_last (a : List S53) (r : S53) : rd_T53 (a ++ [r]) (a.length : Int) = r := by simp [rd_T53]
end Go.Proofs.Ytbgjoiccehiglaa.LibV
end
section
namespace Go.Proofs.Ytbgjoiccehiglaa.LibA
open Go.RowKit Go.Proofs.Ytbgjoiccehiglaa.Print Go.Proofs.YtbgjoiccehiglaaW.PrintWords Go.Proofs.YtbgjoiccehiglaaW.PrintLast
def SgAt (s : ByteArray) (i m : Int) : Prop :=
  (sgH (bt s i)).2.2.2 = true ∧ m = 1 + (sgH (bt s i)).1 ∧ i + m ≤ s.size ∧ sgR s (sgH (bt s i)).1.toNat (i + 1) (sgH (bt s i)).2.1 (sgH (bt s i)).2.2.1 = true
theorem sgStep_some {s : ByteArray} {i m : Int} : sgStep s i = some m ↔ SgAt s i m := by
  unfold sgStep SgAt
  constructor
  · intro h
    split at h
    · cases h
    · split at h
      · cases h
      · split at h
        · cases h
          rename_i h1 h2 h3
          exact ⟨by simpa using h1, rfl, by omega, h3⟩
        · cases h
  · rintro ⟨h1, rfl, h3, h4⟩
    rw [if_neg (by simp [h1]), if_neg (by omega), if_pos h4]
theorem SgAt.pos {s : ByteArray} {i m : Int} (h : SgAt s i m) : 1 ≤ m ∧ m ≤ 4 ∧ i + m ≤ s.size := by
  have := sgH_rest (bt s i)
  obtain ⟨_, rfl, h3, _⟩ := h
  omega
theorem SgAt.det {s : ByteArray} {i m m' : Int} (h : SgAt s i m) (h' : SgAt s i m') : m = m' := by
  rw [h.2.1, h'.2.1]
inductive Ch (s : ByteArray) : Nat → Int → Int → Prop
  | nil (i : Int) : Ch s 0 i i
  | cons {n : Nat} {i m j : Int} (h : SgAt s i m) (t : Ch s n (i + m) j) : Ch s (n + 1) i j
theorem Ch.le {s : ByteArray} {n : Nat} {i j : Int} (h : Ch s n i j) : i + n ≤ j ∧ j ≤ i + 4 * n := by
  induction h with
  | nil => omega
  | cons h t ih => have := h.pos; omega
theorem Ch.size {s : ByteArray} {n : Nat} {i j : Int} (h : Ch s n i j) (hi : i ≤ s.size) : j ≤ s.size := by
  induction h with
  | nil => exact hi
  | cons h t ih => exact ih h.pos.2.2
theorem Ch.snoc {s : ByteArray} {n : Nat} {i j m : Int} (h : Ch s n i j) (hm : SgAt s j m) : Ch s (n + 1) i (j + m) := by
  induction h with
  | nil => exact .cons hm (.nil _)
  | cons h t ih => exact .cons h (ih hm)
theorem Ch.trans {s : ByteArray} {n n' : Nat} {i j k : Int} (h : Ch s n i j) (h' : Ch s n' j k) : Ch s (n + n') i k := by
  induction h with
  | nil => simpa using h'
  | cons h t ih => rw [show ∀ a b : Nat, a + 1 + b = (a + b) + 1 by omega]; exact .cons h (ih h')
theorem Ch.split {s : ByteArray} {n n' : Nat} {i j j' : Int} (h : Ch s n i j) (h' : Ch s n' i j') : (∃ c, n' = n + c ∧ Ch s c j j') ∨ (∃ c m, SgAt s j' m ∧ Ch s c (j' + m) j) := by
  induction h generalizing n' with
  | nil => exact .inl ⟨n', by omega, h'⟩
  | cons h t ih =>
    cases h' with
    | nil => exact .inr ⟨_, _, h, t⟩
    | cons h2 t2 =>
      have := h.det h2
      subst this
      rcases ih t2 with ⟨c, hc, hch⟩ | r
      · exact .inl ⟨c, by omega, hch⟩
      · exact .inr r
theorem sgL_ch (s : ByteArray) : ∀ (k : Nat) (n i : Int), 0 ≤ i → i ≤ s.size → (s.size : Int) - i < k → ∃ c : Nat, ∃ j : Int, sgL s k n i = (n + c, j) ∧ Ch s c i j ∧ j ≤ s.size ∧ ∀ m, ¬ SgAt s j m
  | 0, n, i, h0, h1, hk => by omega
  | k + 1, n, i, h0, h1, hk => by
    simp only [sgL]
    by_cases hi : i < (s.size : Int)
    · rw [if_pos hi]
      cases hs : sgStep s i with
      | none => exact ⟨0, i, by simp, .nil _, h1, fun m hm => by rw [sgStep_some.mpr hm] at hs; cases hs⟩
      | some m =>
        have hm := sgStep_some.mp hs
        have := hm.pos
        obtain ⟨c, j, h, hc, hj, hn⟩ := sgL_ch s k (n + 1) (i + m) (by omega) (by omega) (by omega)
        exact ⟨c + 1, j, by show sgL s k (n + 1) (i + m) = _; rw [h, show n + 1 + (c : Int) = n + ((c + 1 : Nat) : Int) by omega], .cons hm hc, hj, hn⟩
    · rw [if_neg hi]
      refine ⟨0, i, by simp, .nil _, h1, fun m hm => ?_⟩
      have := hm.pos
      omega
theorem signs_ch (s : ByteArray) : ∃ c : Nat, ∃ j : Int, sgL s (s.size + 1) 0 0 = ((c : Int), j) ∧ Ch s c 0 j ∧ 0 ≤ j ∧ j ≤ s.size ∧ ∀ m, ¬ SgAt s j m := by
  obtain ⟨c, j, h, hc, hj, hn⟩ := sgL_ch s (s.size + 1) 0 0 (by omega) (by omega) (by omega)
  exact ⟨c, j, by rw [h]; simp, hc, by have := hc.le; omega, hj, hn⟩
def Vld (s : ByteArray) : Prop := ∃ c, Ch s c 0 s.size
theorem vld_iff {s : ByteArray} {c : Nat} {j : Int} (h : Ch s c 0 j) (hn : ∀ m, ¬ SgAt s j m) (hj : j ≤ s.size) : Vld s ↔ j = s.size := by
  constructor
  · rintro ⟨c', h'⟩
    rcases h.split h' with ⟨c2, _, h2⟩ | ⟨c2, m, hm, h2⟩
    · cases h2 with
      | nil => rfl
      | cons hm _ => exact absurd hm (hn _)
    · have := hm.pos
      omega
  · rintro rfl
    exact ⟨c, h⟩
theorem bt_take {s : ByteArray} {n : Nat} (hn : n ≤ s.size) {d : Int} (h0 : 0 ≤ d) (h1 : d < n) : bt (s.extract 0 n) d = bt s d := by
  unfold bt
  rw [dif_pos (by rw [ByteArray.size_extract]; omega), dif_pos (by omega)]
  simp [ByteArray.getElem_extract]
theorem bt_drop {s : ByteArray} {a n : Nat} (hn : n ≤ s.size) {d : Int} (h0 : 0 ≤ d) (h1 : a + d < n) : bt (s.extract a n) d = bt s (a + d) := by
  unfold bt
  rw [dif_pos (by rw [ByteArray.size_extract]; omega), dif_pos (by omega)]
  have e : a + d.toNat = ((a : Int) + d).toNat := by omega
  simp only [ByteArray.getElem_extract, e]
theorem size_take {s : ByteArray} {n : Nat} (hn : n ≤ s.size) : (s.extract 0 n).size = n := by rw [ByteArray.size_extract]; omega
end Go.Proofs.Ytbgjoiccehiglaa.LibA
end
section
namespace Go.Proofs.Ytbgjoiccehiglaa.LibB
open Go.RowKit Go.Proofs.Ytbgjoiccehiglaa.Print Go.Proofs.YtbgjoiccehiglaaW.PrintWords Go.Proofs.YtbgjoiccehiglaaW.PrintLast Go.Proofs.YtbgjoiccehiglaaW.PrintMore Go.Proofs.Ytbgjoiccehiglaa.LibA
theorem w64 {n : Int} (h0 : -9223372036854775808 ≤ n) (h1 : n ≤ 9223372036854775807) : wrap64 n = n := by unfold wrap64; omega
theorem sign_at {s : ByteArray} {i m : Int} (h0 : 0 ≤ i) (hs : s.size ≤ 140737488351232) (h : SgAt s i m) : bonsairef04_sign.f s i = some m := by
  have := h.pos
  unfold bonsairef04_sign.f
  rw [if_pos ⟨h0, by omega, by omega⟩, sgStep_some.mpr h]
  rfl
theorem sign_none {s : ByteArray} {i : Int} (h0 : 0 ≤ i) (hi : i < s.size) (hs : s.size ≤ 140737488351232) (h : ∀ m, ¬ SgAt s i m) : bonsairef04_sign.f s i = some 0 := by
  unfold bonsairef04_sign.f
  rw [if_pos ⟨h0, hi, by omega⟩]
  cases hh : sgStep s i with
  | none => rfl
  | some m => exact absurd (sgStep_some.mp hh) (h m)
theorem first_l {s : ByteArray} (hs : s.size ≤ 140737488351232) {c : Nat} {i j : Int} (h : Ch s c i j) : ∀ k, 0 ≤ i → j ≤ s.size → (∀ m, ¬ SgAt s j m) → bonsairef04_First.l0 (c + 1 + k) s i = some (if j < s.size then (j, true) else (0, false)) := by
  induction h with
  | nil i =>
    intro k h0 hj hn
    rw [show 0 + 1 + k = k + 1 by omega]
    simp only [bonsairef04_First.l0]
    by_cases hi : i < (s.size : Int)
    · rw [if_pos hi, if_pos hi, sign_none h0 hi hs hn]
      rfl
    · rw [if_neg hi, if_neg hi]
  | @cons n i m j h t ih =>
    intro k h0 hj hn
    have hp := h.pos
    rw [show n + 1 + 1 + k = (n + 1 + k) + 1 by omega]
    simp only [bonsairef04_First.l0]
    rw [if_pos (by omega), sign_at h0 hs h]
    simp only [Option.bind_some]
    rw [if_neg (by omega), w64 (by omega) (by omega)]
    exact ih k (by omega) hj hn
structure Tells (s : ByteArray) (c : Nat) (j : Int) : Prop where
  signs : word_signs.f s = some ((c : Int), j)
  ch : Ch s c 0 j
  lo : 0 ≤ j
  hi : j ≤ s.size
  stop : ∀ m, ¬ SgAt s j m
  few : (c : Int) ≤ j
theorem tells (s : ByteArray) (hs : s.size ≤ 140737488351232) : ∃ c j, Tells s c j := by
  obtain ⟨c, j, h, hc, h0, hj, hn⟩ := signs_ch s
  exact ⟨c, j, by unfold word_signs.f; rw [if_pos (by omega), h], hc, h0, hj, hn, by have := hc.le; omega⟩
theorem Tells.vld {s : ByteArray} {c : Nat} {j : Int} (t : Tells s c j) : Vld s ↔ j = s.size := vld_iff t.ch t.stop t.hi
theorem Tells.wordFirst {s : ByteArray} {c : Nat} {j : Int} (t : Tells s c j) : word_First.f s = some (if j < s.size then (j, true) else (0, false)) := by
  unfold word_First.f
  rw [t.signs]
  simp only [Option.bind_some]
  split <;> rfl
noncomputable instance (s : ByteArray) : Decidable (Vld s) := Classical.propDecidable _
theorem Tells.wordValid {s : ByteArray} {c : Nat} {j : Int} (t : Tells s c j) : word_Valid.f s = some (decide (Vld s)) := by
  unfold word_Valid.f
  rw [t.signs]
  simp only [Option.bind_some]
  congr 1
  by_cases h : j = (s.size : Int)
  · simp [h, t.vld]
  · simp [h, t.vld]
theorem wordValid (s : ByteArray) (hs : s.size ≤ 140737488351232) : word_Valid.f s = some (decide (Vld s)) := by
  obtain ⟨c, j, t⟩ := tells s hs
  exact t.wordValid
theorem Tells.refFirst {s : ByteArray} {c : Nat} {j : Int} (t : Tells s c j) (hs : s.size ≤ 140737488351232) (k : Nat) : bonsairef04_First.f (c + 1 + k) s = word_First.f s := by
  rw [t.wordFirst]
  exact first_l hs t.ch k (by omega) t.hi t.stop
theorem Tells.refValid {s : ByteArray} {c : Nat} {j : Int} (t : Tells s c j) (hs : s.size ≤ 140737488351232) (k : Nat) : bonsairef04_Valid.f (c + 1 + k) s = word_Valid.f s := by
  unfold bonsairef04_Valid.f
  rw [t.refFirst hs, t.wordFirst, t.wordValid]
  simp only [Option.bind_some]
  congr 1
  have := t.hi
  by_cases h : j < (s.size : Int)
  · rw [if_pos h]; simp [t.vld]; omega
  · rw [if_neg h]; simp [t.vld]; omega
end Go.Proofs.Ytbgjoiccehiglaa.LibB
end
section
namespace Go.Proofs.Ytbgjoiccehiglaa.LibC
open Go.RowKit Go.Proofs.Ytbgjoiccehiglaa.Print Go.Proofs.YtbgjoiccehiglaaW.PrintWords Go.Proofs.YtbgjoiccehiglaaW.PrintLast Go.Proofs.YtbgjoiccehiglaaW.PrintMore Go.Proofs.Ytbgjoiccehiglaa.LibA Go.Proofs.Ytbgjoiccehiglaa.LibB
def putL : Nat → Int → List Int
  | 0, x => [x]
  | d + 1, x => if x ≥ 128 then (x % 128 + 128) :: putL d (x / 128) else [x]
end Go.Proofs.Ytbgjoiccehiglaa.LibC
end
section
namespace Go.Proofs.Ytbgjoiccehiglaa.LibD
open Go.RowKit Go.Proofs.Ytbgjoiccehiglaa.Print Go.Proofs.YtbgjoiccehiglaaW.PrintWords Go.Proofs.YtbgjoiccehiglaaW.PrintLast Go.Proofs.YtbgjoiccehiglaaW.PrintMore Go.Proofs.Ytbgjoiccehiglaa.LibA Go.Proofs.Ytbgjoiccehiglaa.LibB Go.Proofs.Ytbgjoiccehiglaa.LibC
def numRef (R : Int × Int × Int) (S : ByteArray) (at_ : Int) : Int × ByteArray × Int × Int := if R.1 = 0 then (R.2.1, S, at_ + R.2.2, 0) else (0, S, at_, R.1)
theorem num_l (S s : ByteArray) (a : Int) (ha : 0 ≤ a) (hS : S.size ≤ 140737488351232) (hs : (S.size : Int) = a + s.size) (hb : ∀ d : Int, 0 ≤ d → d < s.size → bt S (a + d) = bt s d) :
    ∀ (d : Nat) (i n : Int) (k : Nat), i + (d + 1 : Nat) = 10 → 0 ≤ i → i ≤ s.size → 0 ≤ n → n < 128 ^ i.toNat →
      bonsairef03_Reader_Num.l0 (3 * (d + 1) + k) n (128 ^ i.toNat) i S a 0 = some (numRef (numL s (d + 1) i n) S a)
  | d, i, n, k, hd, hi0, his, hn0, hn => by
    rw [show 3 * (d + 1) + k = (((3 * d + k) + 1) + 1) + 1 by omega]
    simp only [bonsairef03_Reader_Num.l0, bonsairef03_Reader_Num.j1, numL]
    rw [if_pos (by omega), w64 (show -9223372036854775808 ≤ a + i by omega) (by omega)]
    simp only [BEq.rfl, if_true]
    by_cases hlt : i < (s.size : Int)
    · rw [if_neg (by omega), if_pos (by omega), if_pos (by omega), if_pos hlt, hb i hi0 hlt]
      have hr := bt_range s i
      rw [pack_wraps_u64 _ hr.1 (by omega)]
      by_cases hok : (i < 9 ∨ bt s i ≤ 1) ∧ (i = 0 ∨ bt s i ≠ 0)
      · rw [if_pos hok]
        have hj : ∀ X : Bool, X = false → (bonsairef03_Reader_Num.j2 (3 * d + k + 1) n (128 ^ i.toNat) i (bt s i) X S a 0 = some (numRef (if bt s i < 128 then (0, n + bt s i % 128 * 128 ^ i.toNat, i + 1) else numL s d (i + 1) (n + bt s i % 128 * 128 ^ i.toNat)) S a)) := by
          rintro X rfl
          simp only [bonsairef03_Reader_Num.j2, Bool.false_eq_true, if_false]
          obtain ⟨_, h64⟩ := num_step i (bt s i) n hi0 (by omega) hr.1 hr.2 hok.1 hn0 hn
          have hm0 : 0 ≤ bt s i % 128 * 128 ^ i.toNat := Int.mul_nonneg (by omega) (by have := (pack_pow9 i (by omega)).2; omega)
          rw [Int.tmod_eq_emod_of_nonneg hr.1, pack_wraps_u64 (bt s i % 128 * 128 ^ i.toNat) hm0 (by omega), pack_wraps_u64 (n + _) (by omega) h64]
          by_cases hb1 : bt s i < 128
          · rw [if_pos hb1, if_pos hb1, w64 (show -9223372036854775808 ≤ a + i by omega) (by omega), w64 (show -9223372036854775808 ≤ a + i + 1 by omega) (by omega)]
            simp only [numRef, if_true]
            congr 4
            omega
          · rw [if_neg hb1, if_neg hb1]
            have h9 : i < 9 := by omega
            cases d with
            | zero => omega
            | succ d =>
              have hp : bt s i % 128 * 128 ^ i.toNat ≤ 127 * 128 ^ i.toNat := Int.mul_le_mul_of_nonneg_right (by omega) (by have := (pack_pow9 i (by omega)).2; omega)
              have he : (128 : Int) ^ (i + 1).toNat = 128 ^ i.toNat * 128 := by rw [show (i + 1).toNat = i.toNat + 1 by omega, Int.pow_succ]
              have h8 := pack_pow8 i (by omega)
              have hq := (pack_pow9 i (by omega)).2
              rw [pack_wraps_u64 (128 ^ i.toNat * 128) (by omega) (by omega), w64 (by omega) (by omega), ← he]
              exact num_l S s a ha hS hs hb d (i + 1) _ k (by omega) (by omega) (by omega) (by omega) (by omega)
        by_cases h9 : i = 9
        · rw [if_pos h9, if_neg (by omega), if_pos (by omega)]
          exact hj _ (by simp; omega)
        · rw [if_neg h9]
          by_cases h0 : i > 0
          · rw [if_pos h0]
            exact hj _ (by simp; omega)
          · rw [if_neg h0]
            exact hj _ rfl
      · rw [if_neg hok]
        have hj : ∀ X : Bool, X = true → bonsairef03_Reader_Num.j2 (3 * d + k + 1) n (128 ^ i.toNat) i (bt s i) X S a 0 = some (numRef (3, 0, 0) S a) := by
          rintro X rfl
          simp only [bonsairef03_Reader_Num.j2, if_true, numRef]
          rfl
        by_cases h9 : i = 9
        · rw [if_pos h9]
          by_cases hb1 : bt s i > 1
          · rw [if_pos hb1]
            exact hj _ rfl
          · rw [if_neg hb1, if_pos (by omega)]
            exact hj _ (by simp; omega)
        · rw [if_neg h9, if_pos (by omega)]
          exact hj _ (by simp; omega)
    · rw [if_pos (by omega), if_neg hlt]
      rfl
structure Sim (S : ByteArray) (a : Int) (r : ByteArray) : Prop where
  big : S.size ≤ 140737488351232
  lo : 0 ≤ a
  size : (S.size : Int) = a + r.size
  rest : r = S.extract a.toNat S.size
theorem Sim.byte {S r : ByteArray} {a : Int} (h : Sim S a r) (d : Int) (h0 : 0 ≤ d) (h1 : d < r.size) : bt S (a + d) = bt r d := by
  have := h.size
  have := h.lo
  rw [h.rest, bt_drop (Nat.le_refl _) h0 (by omega)]
  congr 1
  omega
theorem Sim.begin (S : ByteArray) (hS : S.size ≤ 140737488351232) (a : Int) (h0 : 0 ≤ a) (h1 : a ≤ S.size) : Sim S a (S.extract a.toNat S.size) :=
  ⟨hS, h0, by rw [ByteArray.size_extract]; omega, rfl⟩
theorem Sim.go {S r : ByteArray} {a : Int} (h : Sim S a r) (n : Int) (h0 : 0 ≤ n) (h1 : n ≤ r.size) : Sim S (a + n) (r.extract n.toNat r.size) := by
  have := h.size
  have := h.lo
  refine ⟨h.big, by omega, by rw [ByteArray.size_extract]; omega, ?_⟩
  conv => lhs; rw [h.rest]
  rw [ByteArray.extract_extract]
  congr 1
  · omega
  · rw [ByteArray.size_extract]; omega
theorem numL_is (s : ByteArray) : ∀ (d : Nat) (i n : Int), i + (d : Nat) = 10 → 0 ≤ i → i ≤ s.size → 0 ≤ n → n < 128 ^ i.toNat →
    ((numL s d i n).1 = 0 → 0 ≤ (numL s d i n).2.1 ∧ (numL s d i n).2.1 < 18446744073709551616 ∧ i < (numL s d i n).2.2 ∧ (numL s d i n).2.2 ≤ s.size) ∧ ((numL s d i n).1 = 0 ∨ (numL s d i n).1 = 2 ∨ (numL s d i n).1 = 3)
  | 0, i, n, _, _, _, _, _ => by simp [numL]
  | d + 1, i, n, hd, hi0, his, hn0, hn => by
    have hr := bt_range s i
    simp only [numL]
    by_cases hlt : i < (s.size : Int)
    · rw [if_pos hlt]
      by_cases hok : (i < 9 ∨ bt s i ≤ 1) ∧ (i = 0 ∨ bt s i ≠ 0)
      · rw [if_pos hok]
        obtain ⟨_, h64⟩ := num_step i (bt s i) n hi0 (by omega) hr.1 hr.2 hok.1 hn0 hn
        have hm0 : 0 ≤ bt s i % 128 * 128 ^ i.toNat := Int.mul_nonneg (by omega) (by have := (pack_pow9 i (by omega)).2; omega)
        by_cases hb1 : bt s i < 128
        · rw [if_pos hb1]
          exact ⟨fun _ => ⟨by show 0 ≤ n + _; omega, by show n + _ < _; omega, by show i < i + 1; omega, by show i + 1 ≤ _; omega⟩, .inl rfl⟩
        · rw [if_neg hb1]
          have hp : bt s i % 128 * 128 ^ i.toNat ≤ 127 * 128 ^ i.toNat := Int.mul_le_mul_of_nonneg_right (by omega) (by have := (pack_pow9 i (by omega)).2; omega)
          have he : (128 : Int) ^ (i + 1).toNat = 128 ^ i.toNat * 128 := by rw [show (i + 1).toNat = i.toNat + 1 by omega, Int.pow_succ]
          have := numL_is s d (i + 1) (n + bt s i % 128 * 128 ^ i.toNat) (by omega) (by omega) (by omega) (by omega) (by omega)
          exact ⟨fun h => by have := this.1 h; omega, this.2⟩
      · rw [if_neg hok]
        exact ⟨(fun h => by cases h), .inr (.inr rfl)⟩
    · rw [if_neg hlt]
      exact ⟨(fun h => by cases h), .inr (.inl rfl)⟩
theorem Sim.num {S r : ByteArray} {a : Int} (h : Sim S a r) (e : Int) : ∃ (v : Int) (r' : ByteArray) (e' a' : Int), pack_Reader_Num.f r e = some (v, r', e') ∧ (∀ k, 30 ≤ k → bonsairef03_Reader_Num.f k S a e = some (v, S, a', e')) ∧ Sim S a' r' ∧ 0 ≤ v ∧ v < 18446744073709551616 ∧
    (e ≠ 0 → v = 0 ∧ e' = e ∧ r' = r ∧ a' = a) ∧ (e = 0 → e' = 0 ∨ e' = 2 ∨ e' = 3) ∧ (e' = 0 → a < a') ∧ (e' ≠ 0 → v = 0 ∧ r' = r ∧ a' = a) := by
  have hsz := h.size
  have hlo := h.lo
  have hbig := h.big
  have hrs : r.size ≤ 9223372036854775000 := by omega
  by_cases he : e = 0
  · subst he
    have hk : ∀ k, 30 ≤ k → bonsairef03_Reader_Num.f k S a 0 = some (numRef (numL r 10 0 0) S a) := fun k hk => by
      have := num_l S r a h.lo h.big h.size h.byte 9 0 0 (k - 30) (by omega) (by omega) (by omega) (by omega) (by decide)
      rw [show 3 * (9 + 1) + (k - 30) = k by omega] at this
      exact this
    obtain ⟨hn1, hn2⟩ := numL_is r 10 0 0 (by omega) (by omega) (by omega) (by omega) (by decide)
    unfold pack_Reader_Num.f
    rw [if_pos hrs, if_pos rfl]
    by_cases hR : (numL r 10 0 0).1 = 0
    · have hn := hn1 hR
      refine ⟨_, _, _, a + (numL r 10 0 0).2.2, by rw [if_pos hR], fun k h' => by rw [hk k h']; unfold numRef; rw [if_pos hR], h.go _ (by omega) (by omega), hn.1, hn.2.1, fun h => absurd rfl h, fun _ => .inl rfl, fun _ => by omega, fun h => absurd rfl h⟩
    · refine ⟨_, _, _, a, by rw [if_neg hR], fun k h' => by rw [hk k h']; unfold numRef; rw [if_neg hR], h, by omega, by omega, fun h => absurd rfl h, fun _ => by omega, fun h => absurd h hR, fun _ => ⟨rfl, rfl, rfl⟩⟩
  · refine ⟨0, r, e, a, by unfold pack_Reader_Num.f; rw [if_pos hrs, if_neg he], fun k hk => ?_, h, by omega, by omega, fun _ => ⟨rfl, rfl, rfl, rfl⟩, fun h => absurd h he, fun h => absurd h he, fun _ => ⟨rfl, rfl, rfl⟩⟩
    obtain ⟨k, rfl⟩ : ∃ m, k = m + 2 := ⟨k - 2, by omega⟩
    unfold bonsairef03_Reader_Num.f
    simp only [bonsairef03_Reader_Num.l0, bonsairef03_Reader_Num.j1]
    rw [if_pos (by omega), if_neg (by simpa using he)]
theorem Sim.left {S r : ByteArray} {a : Int} (h : Sim S a r) (e : Int) : pack_Reader_Left.f r e = some ((r.size : Int), r, e) ∧ bonsairef03_Reader_Left.f S a e = some ((r.size : Int), S, a, e) := by
  have := h.size
  have := h.lo
  have := h.big
  exact ⟨rfl, by unfold bonsairef03_Reader_Left.f; rw [w64 (by omega) (by omega)]; congr 2; omega⟩
theorem Sim.take {S r : ByteArray} {a : Int} (h : Sim S a r) (n : Int) (h0 : 0 ≤ n) (h1 : n ≤ r.size) : pack_Reader_Take.f r 0 n = some (r.extract 0 n.toNat, r.extract n.toNat r.size, 0) ∧
    (∀ k, 1 ≤ k → bonsairef03_Reader_Take.f k S a 0 n = some (r.extract 0 n.toNat, S, a + n, 0)) := by
  have hsz := h.size
  have hlo := h.lo
  have hbig := h.big
  refine ⟨by unfold pack_Reader_Take.f; rw [if_pos rfl, if_pos ⟨h0, h1⟩], fun k hk => ?_⟩
  obtain ⟨k, rfl⟩ : ∃ m, k = m + 1 := ⟨k - 1, by omega⟩
  unfold bonsairef03_Reader_Take.f
  rw [if_pos rfl, if_neg (by omega), w64 (show -9223372036854775808 ≤ (S.size : Int) - a by omega) (by omega)]
  simp only [bonsairef03_Reader_Take.j0]
  rw [if_neg (by simp; omega), if_pos trivial, w64 (show -9223372036854775808 ≤ a + n by omega) (by omega), w64 (show -9223372036854775808 ≤ a + n - n by omega) (by omega), if_pos (by omega), if_pos (by omega), if_pos (by omega)]
  congr 2
  conv => rhs; rw [h.rest]
  rw [ByteArray.extract_extract]
  congr 1
  · omega
  · omega
end Go.Proofs.Ytbgjoiccehiglaa.LibD
end
section
namespace Go.Proofs.Ytbgjoiccehiglaa.LibE
open Go.RowKit Go.Proofs.Ytbgjoiccehiglaa.Print Go.Proofs.YtbgjoiccehiglaaW.PrintWords Go.Proofs.YtbgjoiccehiglaaW.PrintLast Go.Proofs.YtbgjoiccehiglaaW.PrintMore Go.Proofs.Ytbgjoiccehiglaa.LibA Go.Proofs.Ytbgjoiccehiglaa.LibB Go.Proofs.Ytbgjoiccehiglaa.LibC Go.Proofs.Ytbgjoiccehiglaa.LibD
def noText : ByteArray := ⟨#[]⟩
theorem refValid (s : ByteArray) (hs : s.size ≤ 140737488351232) (k : Nat) (hk : s.size + 1 ≤ k) : bonsairef04_Valid.f k s = some (decide (Vld s)) := by
  obtain ⟨c, j, t⟩ := tells s hs
  have hc : c ≤ s.size := by have := t.few; have := t.hi; omega
  have := t.refValid hs (k - (c + 1))
  rw [show c + 1 + (k - (c + 1)) = k by omega, t.wordValid] at this
  exact this
theorem take_both (s : ByteArray) (hs : s.size ≤ 140737488351232) (a most : Int) (hm0 : -9223372036854775808 ≤ most) (hm1 : most ≤ 9223372036854775807) :
    ∃ (t : ByteArray) (b e : Int), (∀ k, s.size + 60 ≤ k → word_Take.f k s a most = some (t, b, e) ∧ bonsairef04_Take.f k s a most = some (t, b, e)) ∧
      (e ≠ 0 → t = noText ∧ b = 0) ∧
      (e = 0 → 0 ≤ a ∧ ∃ v n : Int, Vld t ∧ 0 ≤ n ∧ n ≤ most ∧ (t.size : Int) = n ∧ a < b - n ∧ b ≤ s.size ∧ t = s.extract (b - n).toNat b.toNat ∧ pack_Reader_Num.f (s.extract a.toNat s.size) 0 = some (n, s.extract v.toNat s.size, 0) ∧ v = b - n) := by
  by_cases ha : a < 0 ∨ (s.size : Int) < a
  · refine ⟨noText, 0, 1, fun k hk => ?_, fun _ => ⟨rfl, rfl⟩, fun h => absurd h (by decide)⟩
    obtain ⟨k, rfl⟩ : ∃ m, k = m + 1 := ⟨k - 1, by omega⟩
    unfold word_Take.f bonsairef04_Take.f
    by_cases h : a < 0
    · rw [if_pos h, if_pos h]
      simp only [word_Take.j0, bonsairef04_Take.j0, if_true]
      exact ⟨rfl, rfl⟩
    · rw [if_neg h, if_neg h, decide_eq_true (show a > (s.size : Int) by omega)]
      simp only [word_Take.j0, bonsairef04_Take.j0, if_true]
      exact ⟨rfl, rfl⟩
  have hS := Sim.begin s hs a (by omega) (by omega)
  obtain ⟨v, r', e', a', hp, hr, hS', hv0, hv1, _, he2, he3, he4⟩ := hS.num 0
  have hfin : ∀ k, 2 ≤ k → ∃ m, k = m + 2 := fun k hk => ⟨k - 2, by omega⟩
  have start : ∀ k, word_Take.f (k + 2) s a most = word_Take.j0 (k + 2) s a most false ∧ bonsairef04_Take.f (k + 2) s a most = bonsairef04_Take.j0 (k + 2) s a most false := fun k => by
    unfold word_Take.f bonsairef04_Take.f
    rw [if_neg (by omega), if_neg (by omega), decide_eq_false (show ¬ a > (s.size : Int) by omega)]
    exact ⟨rfl, rfl⟩
  by_cases he : e' = 0
  · subst he
    have hsz' := hS'.size
    have hlo' := hS'.lo
    have hr's : r'.size ≤ s.size := by omega
    by_cases hbig : most < 0 ∨ v > IntKind.u64.wrap most
    · refine ⟨noText, 0, 10, fun k hk => ?_, fun _ => ⟨rfl, rfl⟩, fun h => absurd h (by decide)⟩
      obtain ⟨k, rfl⟩ := hfin k (by omega)
      rw [(start k).1, (start k).2]
      simp only [word_Take.j0, bonsairef04_Take.j0, word_Take.j1, bonsairef04_Take.j1, Bool.false_eq_true, if_false, pack_New.f, Option.bind_some]
      rw [if_pos (by omega), if_pos (by omega), hp, hr (k + 1) (by omega)]
      simp only [Option.bind_some, pack_Reader_Err.f, if_true]
      by_cases hm : most < 0
      · rw [if_pos hm, if_pos hm]; exact ⟨rfl, rfl⟩
      · rw [if_neg hm, if_neg hm, decide_eq_true (show v > IntKind.u64.wrap most by omega)]; simp only [if_true]; exact ⟨rfl, rfl⟩
    · have hw : IntKind.u64.wrap most = most := pack_wraps_u64 most (by omega) (by omega)
      have hl := hS'.left 0
      have hwl : IntKind.u64.wrap (r'.size : Int) = r'.size := pack_wraps_u64 _ (by omega) (by omega)
      have go : ∀ k, word_Take.f (k + 2) s a most = word_Take.j1 (k + 1) s v false r' 0 ∧ (30 ≤ k → bonsairef04_Take.f (k + 2) s a most = bonsairef04_Take.j1 (k + 1) v false s a' 0) := fun k => by
        rw [(start k).1, (start k).2]
        simp only [word_Take.j0, bonsairef04_Take.j0, Bool.false_eq_true, if_false, pack_New.f, Option.bind_some]
        rw [if_pos (by omega), if_pos (by omega), hp]
        simp only [Option.bind_some, pack_Reader_Err.f, if_true]
        rw [if_neg (show ¬ most < 0 by omega), decide_eq_false (show ¬ v > IntKind.u64.wrap most by omega)]
        refine ⟨rfl, fun h => ?_⟩
        rw [hr (k + 1) (by omega)]
        simp only [Option.bind_some, if_true]
        rw [if_neg (show ¬ most < 0 by omega), decide_eq_false (show ¬ v > IntKind.u64.wrap most by omega)]
      by_cases hcut : v > (r'.size : Int)
      · refine ⟨noText, 0, 2, fun k hk => ?_, fun _ => ⟨rfl, rfl⟩, fun h => absurd h (by decide)⟩
        obtain ⟨k, rfl⟩ := hfin k (by omega)
        rw [(go k).1, (go k).2 (by omega)]
        simp only [word_Take.j1, bonsairef04_Take.j1, Bool.false_eq_true, if_false]
        rw [hl.1, hl.2]
        simp only [Option.bind_some]
        rw [hwl, if_pos hcut, if_pos hcut]
        exact ⟨rfl, rfl⟩
      · obtain ⟨t1, t2⟩ := hS'.take v hv0 (by omega)
        have hS2 := hS'.go v hv0 (by omega)
        have hl2 := hS2.left 0
        have hts : (r'.extract 0 v.toNat).size = v.toNat := size_take (by omega)
        have hvs : v.toNat ≤ s.size := by omega
        have hwv : word_Valid.f (r'.extract 0 v.toNat) = some (decide (Vld (r'.extract 0 v.toNat))) := wordValid _ (by omega)
        have hrv : ∀ k, s.size + 1 ≤ k → bonsairef04_Valid.f k (r'.extract 0 v.toNat) = some (decide (Vld (r'.extract 0 v.toNat))) := fun k hk => refValid _ (by omega) k (by omega)
        have go2 : ∀ k, s.size + 30 ≤ k → word_Take.f (k + 2) s a most = (if Vld (r'.extract 0 v.toNat) then some (r'.extract 0 v.toNat, a' + v, 0) else some (noText, 0, 4)) ∧ bonsairef04_Take.f (k + 2) s a most = (if Vld (r'.extract 0 v.toNat) then some (r'.extract 0 v.toNat, a' + v, 0) else some (noText, 0, 4)) := fun k hk => by
          rw [(go k).1, (go k).2 (by omega)]
          simp only [word_Take.j1, bonsairef04_Take.j1, Bool.false_eq_true, if_false]
          rw [hl.1, hl.2]
          simp only [Option.bind_some]
          rw [hwl, if_neg hcut, if_neg hcut, w64 (n := v) (by omega) (by omega), t1, t2 k (by omega)]
          simp only [Option.bind_some]
          rw [hwv, hrv k (by omega)]
          simp only [Option.bind_some, decide_eq_true_eq]
          rw [hl2.1]
          simp only [Option.bind_some]
          have := hS2.size
          rw [w64 (n := (s.size : Int) - _) (by omega) (by omega), show (s.size : Int) - ((r'.extract v.toNat r'.size).size : Int) = a' + v by omega]
          exact ⟨rfl, rfl⟩
        by_cases hV : Vld (r'.extract 0 v.toNat)
        · refine ⟨r'.extract 0 v.toNat, a' + v, 0, fun k hk => ?_, fun h => absurd rfl h, fun _ => ⟨by omega, a', v, hV, hv0, by omega, by rw [hts]; omega, by have := he3 rfl; omega, by omega, ?_, ?_, by omega⟩⟩
          · obtain ⟨k, rfl⟩ := hfin k (by omega)
            have := go2 k (by omega)
            rw [if_pos hV] at this
            exact this
          · conv => lhs; rw [hS'.rest]
            rw [ByteArray.extract_extract]
            congr 1
            · omega
            · omega
          · rw [hp, hS'.rest]
        · refine ⟨noText, 0, 4, fun k hk => ?_, fun _ => ⟨rfl, rfl⟩, fun h => absurd h (by decide)⟩
          obtain ⟨k, rfl⟩ := hfin k (by omega)
          have := go2 k (by omega)
          rw [if_neg hV] at this
          exact this
  · refine ⟨noText, 0, e', fun k hk => ?_, fun _ => ⟨rfl, rfl⟩, fun h => absurd h he⟩
    obtain ⟨k, rfl⟩ := hfin k (by omega)
    rw [(start k).1, (start k).2]
    simp only [word_Take.j0, bonsairef04_Take.j0, Bool.false_eq_true, if_false, pack_New.f, Option.bind_some]
    rw [if_pos (by omega), if_pos (by omega), hp, hr (k + 1) (by omega)]
    simp only [Option.bind_some, pack_Reader_Err.f]
    rw [if_neg he, if_neg he]
    exact ⟨rfl, rfl⟩
end Go.Proofs.Ytbgjoiccehiglaa.LibE
end
section
namespace Go.Proofs.Ytbgjoiccehiglaa.LibF
open Go.RowKit Go.Proofs.Ytbgjoiccehiglaa.Print Go.Proofs.YtbgjoiccehiglaaW.PrintWords Go.Proofs.YtbgjoiccehiglaaW.PrintLast Go.Proofs.YtbgjoiccehiglaaW.PrintMore Go.Proofs.Ytbgjoiccehiglaa.LibA Go.Proofs.Ytbgjoiccehiglaa.LibB
theorem bt_app_left {s t : ByteArray} {d : Int} (h0 : 0 ≤ d) (h1 : d < s.size) : bt (s ++ t) d = bt s d := by
  unfold bt
  rw [dif_pos (by rw [ByteArray.size_append]; omega), dif_pos (by omega)]
  rw [ByteArray.getElem_append_left (by omega)]
theorem bt_app_right {s t : ByteArray} {d : Int} (h0 : 0 ≤ d) (h1 : d < t.size) : bt (s ++ t) (s.size + d) = bt t d := by
  unfold bt
  rw [dif_pos (by rw [ByteArray.size_append]; omega), dif_pos (by omega)]
  rw [ByteArray.getElem_append_right (by omega)]
  have e : ((s.size : Int) + d).toNat - s.size = d.toNat := by omega
  simp only [e]
theorem take_all (s : ByteArray) : s.extract 0 s.size = s := by simp
end Go.Proofs.Ytbgjoiccehiglaa.LibF
end
section
namespace Go.Proofs.Ytbgjoiccehiglaa.LibG
open Go.RowKit Go.Proofs.Ytbgjoiccehiglaa.Print Go.Proofs.YtbgjoiccehiglaaW.PrintWords Go.Proofs.YtbgjoiccehiglaaW.PrintLast Go.Proofs.YtbgjoiccehiglaaW.PrintMore Go.Proofs.Ytbgjoiccehiglaa.LibA Go.Proofs.Ytbgjoiccehiglaa.LibB Go.Proofs.Ytbgjoiccehiglaa.LibC Go.Proofs.Ytbgjoiccehiglaa.LibD Go.Proofs.Ytbgjoiccehiglaa.LibE Go.Proofs.Ytbgjoiccehiglaa.LibF
theorem ba_ext {a b : ByteArray} (hs : a.size = b.size) (h : ∀ i : Int, 0 ≤ i → i < a.size → bt a i = bt b i) : a = b := by
  apply ByteArray.ext
  apply Array.ext hs
  intro i h1 h2
  have := h i (by omega) (by have : i < a.size := h1; omega)
  unfold bt at this
  rw [dif_pos (by have : i < a.size := h1; omega), dif_pos (by have : i < b.size := h2; omega)] at this
  have e : (a[((i : Nat) : Int).toNat]'(by have : i < a.size := h1; omega)) = (b[((i : Nat) : Int).toNat]'(by have : i < b.size := h2; omega)) := UInt8.toNat_inj.mp (by omega)
  simpa [ByteArray.getElem_eq_getElem_data] using e
theorem bt_nums {xs : List Int} (hx : ∀ x ∈ xs, 0 ≤ x ∧ x < 256) {i : Nat} (hi : i < xs.length) : bt (strOfNums xs) i = xs[i] := by
  unfold bt
  rw [dif_pos (by rw [strOfNums_size]; omega)]
  have := hx xs[i] (List.getElem_mem hi)
  simp only [strOfNums, ByteArray.getElem_eq_getElem_data, Int.toNat_natCast, List.getElem_toArray, List.getElem_map]
  rw [UInt8.toNat_ofNat']
  omega
theorem putL_bytes : ∀ (d : Nat) (x : Int), 0 ≤ x → x < 128 ^ (d + 1) → ∀ y ∈ putL d x, 0 ≤ y ∧ y < 256
  | 0, x, h0, h1, y, hy => by
    simp [putL] at hy
    subst hy
    omega
  | d + 1, x, h0, h1, y, hy => by
    unfold putL at hy
    split at hy
    · rcases List.mem_cons.mp hy with rfl | hy
      · omega
      · refine putL_bytes d (x / 128) (by omega) ?_ y hy
        rw [Int.pow_succ] at h1
        exact Int.ediv_lt_of_lt_mul (by omega) h1
    · simp at hy
      subst hy
      omega
theorem pow_le {a b : Nat} (h : a ≤ b) : (128 : Int) ^ a ≤ 128 ^ b := by
  induction h with
  | refl => exact Int.le_refl _
  | @step m _ ih => rw [Int.pow_succ]; have : (0 : Int) < 128 ^ a := Int.pow_pos (by decide); omega
theorem pow_pos (n : Nat) : (0 : Int) < 128 ^ n := Int.pow_pos (by decide)
theorem num_canon (s : ByteArray) : ∀ (k : Nat) (i acc : Int), 0 ≤ i → i + (k + 1 : Nat) = 10 → (numL s (k + 1) i acc).1 = 0 →
    ∃ x : Int, 0 ≤ x ∧ x < 128 ^ (k + 1) ∧ (i = 0 ∨ 0 < x) ∧ (numL s (k + 1) i acc).2.1 = acc + x * 128 ^ i.toNat ∧ (numL s (k + 1) i acc).2.2 = i + (putL k x).length ∧ i + (putL k x).length ≤ s.size ∧ ∀ j (hj : j < (putL k x).length), bt s (i + j) = (putL k x)[j]
  | k, i, acc, hi, hk, h => by
    simp only [numL] at h ⊢
    have hr := bt_range s i
    by_cases hlt : i < (s.size : Int)
    · rw [if_pos hlt] at h ⊢
      by_cases hok : (i < 9 ∨ bt s i ≤ 1) ∧ (i = 0 ∨ bt s i ≠ 0)
      · rw [if_pos hok] at h ⊢
        by_cases hb : bt s i < 128
        · rw [if_pos hb] at h ⊢
          have hp : putL k (bt s i) = [bt s i] := by
            cases k with
            | zero => rfl
            | succ d => show (if bt s i ≥ 128 then _ else _) = _; rw [if_neg (by omega)]
          refine ⟨bt s i, hr.1, ?_, by omega, by rw [show bt s i % 128 = bt s i by omega], by rw [hp]; rfl, by rw [hp]; simp; omega, fun j hj => ?_⟩
          · have : (128 : Int) ^ 1 ≤ 128 ^ (k + 1) := pow_le (by omega)
            omega
          · simp only [hp, List.length_singleton] at hj ⊢
            have : j = 0 := by omega
            subst this
            simp
        · rw [if_neg hb] at h ⊢
          cases k with
          | zero => omega
          | succ k =>
            obtain ⟨x, h1, h2, h3, h4, h5, h6, h7⟩ := num_canon s k (i + 1) _ (by omega) (by omega) h
            have hx : 0 < x := by omega
            have hp : putL (k + 1) (x * 128 + bt s i % 128) = bt s i :: putL k x := by
              show (if x * 128 + bt s i % 128 ≥ 128 then ((x * 128 + bt s i % 128) % 128 + 128) :: putL k ((x * 128 + bt s i % 128) / 128) else _) = _
              rw [if_pos (by omega), show (x * 128 + bt s i % 128) / 128 = x by omega, show (x * 128 + bt s i % 128) % 128 + 128 = bt s i by omega]
            refine ⟨x * 128 + bt s i % 128, by omega, by rw [Int.pow_succ]; omega, .inr (by omega), ?_, ?_, ?_, ?_⟩
            · rw [h4, show (i + 1).toNat = i.toNat + 1 by omega, Int.pow_succ, Int.add_mul, Int.mul_assoc, Int.mul_comm 128 (128 ^ i.toNat)]
              omega
            · rw [h5, hp, List.length_cons]; omega
            · rw [hp, List.length_cons]; omega
            · intro j hj
              cases j with
              | zero => simp only [hp, List.getElem_cons_zero]; simp
              | succ j =>
                rw [hp, List.length_cons] at hj
                simp only [hp, List.getElem_cons_succ]
                rw [← h7 j (by omega)]
                congr 1
                omega
      · rw [if_neg hok] at h
        cases h
    · rw [if_neg hlt] at h
      cases h
theorem read_put (s : ByteArray) (h : (numL s 10 0 0).1 = 0) : s.extract 0 (numL s 10 0 0).2.2.toNat = strOfNums (putL 9 (numL s 10 0 0).2.1) := by
  obtain ⟨x, h1, h2, _, h4, h5, h6, h7⟩ := num_canon s 9 0 0 (by omega) (by omega) h
  have e4 : (numL s 10 0 0).2.1 = x := by simpa using h4
  have e5 : (numL s 10 0 0).2.2 = (putL 9 x).length := by simpa using h5
  have h6' : (putL 9 x).length ≤ s.size := by omega
  rw [e4, e5, Int.toNat_natCast]
  refine ba_ext (by rw [size_take h6', strOfNums_size]) (fun i h0 hi => ?_)
  rw [size_take h6'] at hi
  obtain ⟨j, rfl⟩ := Int.eq_ofNat_of_zero_le h0
  rw [bt_take h6' h0 hi, bt_nums (putL_bytes 9 x h1 h2) (by omega)]
  have := h7 j (by omega)
  rwa [Int.zero_add] at this
theorem take_drop (s : ByteArray) (n : Nat) (hn : n ≤ s.size) : s.extract 0 n ++ s.extract n s.size = s := by
  refine ba_ext (by rw [ByteArray.size_append, size_take hn, ByteArray.size_extract]; omega) (fun i h0 hi => ?_)
  rw [ByteArray.size_append, size_take hn, ByteArray.size_extract] at hi
  by_cases h : i < n
  · rw [bt_app_left h0 (by rw [size_take hn]; exact h), bt_take hn h0 h]
  · obtain ⟨j, rfl⟩ : ∃ j, i = ((s.extract 0 n).size : Int) + j := ⟨i - n, by rw [size_take hn]; omega⟩
    rw [size_take hn] at h hi
    rw [bt_app_right (by omega) (by rw [ByteArray.size_extract]; omega), bt_drop (Nat.le_refl _) (by omega) (by omega), size_take hn]
end Go.Proofs.Ytbgjoiccehiglaa.LibG
end
section
namespace Go.Proofs.Ytbgjoiccehiglaa.LibW
open Go.RowKit Go.Proofs.Ytbgjoiccehiglaa.Print Go.Proofs.YtbgjoiccehiglaaW.PrintWords Go.Proofs.YtbgjoiccehiglaaW.PrintLast Go.Proofs.YtbgjoiccehiglaaW.PrintMore Go.Proofs.Ytbgjoiccehiglaa.LibU Go.Proofs.Ytbgjoiccehiglaa.LibV Go.Proofs.Ytbgjoiccehiglaa.LibC Go.Proofs.Ytbgjoiccehiglaa.LibE Go.Proofs.Ytbgjoiccehiglaa.LibG
theorem rd_at (l : List Int) (i : Nat) (h : i < l.length) : rd l (i : Int) = l[i] := by simp [rd, List.getD_eq_getElem?_getD, h]
theorem rd53_at (l : List S53) (i : Nat) (h : i < l.length) : rd_T53 l (i : Int) = l[i] := by simp [rd_T53, List.getD_eq_getElem?_getD, h]
theorem may_same (rs : List S53) (hl : (rs.length : Int) ≤ 1000000000000) : ∀ (k : Nat) (i : Int), 0 ≤ i → runs_May.l0 k rs rs (rs.length : Int) i = bonsairef06_May.l0 k rs i
  | 0, _, _ => rfl
  | k + 1, i, h0 => by
    unfold runs_May.l0 bonsairef06_May.l0
    by_cases hi : i < (rs.length : Int)
    · rw [if_pos hi, if_pos hi, if_pos h0, if_pos hi, if_pos h0, w64 (n := i + 1) (by omega) (by omega), may_same rs hl k (i + 1) (by omega)]
    · rw [if_neg hi, if_neg hi]
theorem may_iff (rs : List S53) : MayR rs ↔ (∀ (i : Nat) (h : i < rs.length), 1 ≤ rs[i].f1) ∧ ∀ (i : Nat) (h : i + 1 < rs.length), rs[i].f0 ≠ rs[i + 1].f0 := by
  constructor
  · intro h
    induction h with
    | nil => exact ⟨fun i h => absurd h (by simp), fun i h => absurd h (by simp)⟩
    | one r h => exact ⟨fun i hi => by obtain rfl : i = 0 := by simpa using hi
                                       exact h, fun i hi => by simp at hi⟩
    | snoc a q r h h1 hne ih =>
      refine ⟨fun i hi => ?_, fun i hi => ?_⟩
      · by_cases hc : i < (a ++ [q]).length
        · rw [List.getElem_append_left hc]; exact ih.1 i hc
        · rw [List.getElem_append_right (by omega)]; simpa using h1
      · by_cases hc : i + 1 < (a ++ [q]).length
        · rw [List.getElem_append_left (by omega), List.getElem_append_left hc]; exact ih.2 i hc
        · have hz : (a ++ [q]).length = a.length + 1 := by simp
          have hz2 : (a ++ [q] ++ [r]).length = a.length + 2 := by simp
          obtain rfl : i = a.length := by omega
          rw [List.getElem_append_left (by omega), List.getElem_append_right (by omega)]
          simpa using hne
  · obtain ⟨n, hn⟩ : ∃ n, n = rs.length := ⟨_, rfl⟩
    induction n generalizing rs with
    | zero => intro _; rw [List.length_eq_zero_iff.mp hn.symm]; exact .nil
    | succ n ih =>
      rintro ⟨h1, h2⟩
      rcases snoc_cases rs with rfl | ⟨b, r, rfl⟩
      · exact .nil
      · have hz : (b ++ [r]).length = b.length + 1 := by simp
        rcases snoc_cases b with rfl | ⟨a, q, rfl⟩
        · exact .one r (by have := h1 0 (by simp); simpa using this)
        · have hz3 : (a ++ [q]).length = a.length + 1 := by simp
          refine .snoc a q r (ih _ (by omega) ⟨fun i hi => ?_, fun i hi => ?_⟩) ?_ ?_
          · have := h1 i (by omega)
            rwa [List.getElem_append_left (by omega)] at this
          · have := h2 i (by omega)
            rwa [List.getElem_append_left (by omega), List.getElem_append_left (bs := [r]) hi] at this
          · have := h1 (a ++ [q]).length (by omega)
            rw [List.getElem_append_right (by omega)] at this
            simpa using this
          · have := h2 a.length (by omega)
            rw [List.getElem_append_left (by omega), List.getElem_append_right (by omega)] at this
            simpa using this
theorem may_l (rs : List S53) (hl : (rs.length : Int) ≤ 1000000000000) : ∀ (d k i : Nat), i + d = rs.length → d + 1 ≤ k → ((∀ (j : Nat) (h : j < rs.length), j < i → 1 ≤ rs[j].f1) ∧ ∀ (j : Nat) (h : j + 1 < rs.length), j + 1 < i → rs[j].f0 ≠ rs[j + 1].f0) →
    ∃ b, bonsairef06_May.l0 k rs (i : Int) = some b ∧ (b = true ↔ MayR rs)
  | 0, k, i, hd, hk, hm => by
    obtain ⟨k, rfl⟩ : ∃ k', k = k' + 1 := ⟨k - 1, by omega⟩
    unfold bonsairef06_May.l0
    rw [if_neg (by omega)]
    exact ⟨true, rfl, by simp only [true_iff]; exact (may_iff rs).mpr ⟨fun j h => hm.1 j h (by omega), fun j h => hm.2 j h (by omega)⟩⟩
  | d + 1, k, i, hd, hk, hm => by
    obtain ⟨k, rfl⟩ : ∃ k', k = k' + 1 := ⟨k - 1, by omega⟩
    have hi : i < rs.length := by omega
    unfold bonsairef06_May.l0
    rw [if_pos (by omega), if_pos (by omega), rd53_at rs i hi]
    by_cases h1 : rs[i].f1 < 1
    · rw [if_pos h1]
      exact ⟨false, rfl, by simp only [Bool.false_eq_true, false_iff]; intro h; have := ((may_iff rs).mp h).1 i hi; omega⟩
    · rw [if_neg h1, w64 (n := (i : Int) + 1) (by omega) (by omega)]
      by_cases h0 : (i : Int) > 0
      · rw [if_pos h0, w64 (n := (i : Int) - 1) (by omega) (by omega), if_pos (by omega), if_pos (by omega), show (i : Int) - 1 = ((i - 1 : Nat) : Int) by omega, rd53_at rs (i - 1) (by omega)]
        by_cases h2 : rs[i - 1].f0 = rs[i].f0
        · rw [if_pos h2]
          refine ⟨false, rfl, ?_⟩
          simp only [Bool.false_eq_true, false_iff]
          intro h
          have := ((may_iff rs).mp h).2 (i - 1) (by omega)
          simp only [show i - 1 + 1 = i by omega] at this
          exact this h2
        · rw [if_neg h2, show (i : Int) + 1 = ((i + 1 : Nat) : Int) by omega]
          refine may_l rs hl d k (i + 1) (by omega) (by omega) ⟨fun j h hj => ?_, fun j h hj => ?_⟩
          · by_cases hji : j = i
            · subst hji; omega
            · exact hm.1 j h (by omega)
          · by_cases hji : j + 1 = i
            · subst hji; simpa using h2
            · exact hm.2 j h (by omega)
      · rw [if_neg h0, show (i : Int) + 1 = ((i + 1 : Nat) : Int) by omega]
        refine may_l rs hl d k (i + 1) (by omega) (by omega) ⟨fun j h hj => ?_, fun j h hj => ?_⟩
        · obtain rfl : j = i := by omega
          omega
        · omega
theorem may_some (rs : List S53) (hl : (rs.length : Int) ≤ 1000000000000) (k : Nat) (hk : rs.length + 1 ≤ k) : ∃ b, runs_May.f k rs = some b ∧ bonsairef06_May.f k rs = some b ∧ (b = true ↔ MayR rs) := by
  obtain ⟨b, h1, h2⟩ := may_l rs hl rs.length k 0 (by omega) hk ⟨fun j _ h => absurd h (by omega), fun j _ h => absurd h (by omega)⟩
  exact ⟨b, (may_same rs hl k 0 (Int.le_refl 0)).trans h1, h1, h2⟩
def sL (most : Int) : List S53 → List Int → List Int × Bool
  | [], out => (out, true)
  | r :: rs, out => if r.f1 > most - out.length then ([], false) else sL most rs (out ++ List.replicate r.f1.toNat r.f0)
theorem sL_is (most : Int) : ∀ (rs : List S53) (out : List Int), (∀ r ∈ rs, 0 ≤ r.f1) → (out.length : Int) ≤ most → sL most rs out = if ((out ++ spread rs).length : Int) ≤ most then (out ++ spread rs, true) else ([], false)
  | [], out, _, ho => by simp [sL, spread, ho]
  | r :: rs, out, hr, ho => by
    have h0 := hr r List.mem_cons_self
    have hsp : spread (r :: rs) = List.replicate r.f1.toNat r.f0 ++ spread rs := by simp [spread]
    unfold sL
    by_cases h : r.f1 > most - out.length
    · rw [if_pos h, if_neg]
      rw [hsp, List.length_append, List.length_append, List.length_replicate]
      omega
    · rw [if_neg h, sL_is most rs _ (fun r hr' => hr r (List.mem_cons_of_mem _ hr')) (by rw [List.length_append, List.length_replicate]; omega), hsp, List.append_assoc]
theorem drop_at (l : List S53) (i : Nat) (h : i < l.length) : l.drop i = l[i] :: l.drop (i + 1) := List.drop_eq_getElem_cons h
theorem spread_l (rs : List S53) (most : Int) (hl : (rs.length : Int) ≤ 1000000000000) (hm : most ≤ 1000000) (hr : ∀ r ∈ rs, 0 ≤ r.f1) : ∀ (d k i : Nat) (out : List Int), i + d = rs.length → d + 1 ≤ k → (out.length : Int) ≤ most →
    runs_Spread.l0 k most out rs (rs.length : Int) (i : Int) = some (sL most (rs.drop i) out)
  | 0, k, i, out, hd, hk, ho => by
    obtain ⟨k, rfl⟩ : ∃ k', k = k' + 1 := ⟨k - 1, by omega⟩
    unfold runs_Spread.l0
    rw [if_neg (by omega), List.drop_eq_nil_of_le (by omega)]
    rfl
  | d + 1, k, i, out, hd, hk, ho => by
    obtain ⟨k, rfl⟩ : ∃ k', k = k' + 1 := ⟨k - 1, by omega⟩
    have hi : i < rs.length := by omega
    have h0 := hr rs[i] (List.getElem_mem hi)
    unfold runs_Spread.l0
    rw [if_pos (by omega), if_pos (by omega), if_pos (by omega), rd53_at rs i hi, drop_at rs i hi, w64 (n := most - out.length) (by omega) (by omega), w64 (n := (i : Int) + 1) (by omega) (by omega)]
    unfold sL
    by_cases h : rs[i].f1 > most - out.length
    · rw [if_pos h, if_pos h]
    · rw [if_neg h, if_neg h]
      unfold slices_Repeat_uint64_uint64.f
      rw [if_pos (by simp), if_pos (by omega)]
      simp only [Option.bind_some, List.length_replicate]
      rw [if_pos (by omega), show rd [rs[i].f0] 0 = rs[i].f0 from rfl, show (i : Int) + 1 = ((i + 1 : Nat) : Int) by omega]
      exact spread_l rs most hl hm hr d k (i + 1) _ (by omega) (by omega) (by rw [List.length_append, List.length_replicate]; omega)
theorem rep_add (n : Nat) (x : Int) (out : List Int) : out ++ [x] ++ List.replicate n x = out ++ List.replicate (n + 1) x := by
  rw [List.append_assoc, List.replicate_succ]; rfl
theorem refSpread_l1 (rs : List S53) (most : Int) (i : Nat) (hi : i < rs.length) (hl : (rs.length : Int) ≤ 1000000000000) (hf : rs[i].f1 ≤ 1000000) : ∀ (d k : Nat) (out : List Int) (j : Int), 0 ≤ j → j + d = rs[i].f1 → d + 1 ≤ k → (out.length : Int) + d ≤ 1000000 →
    bonsairef06_Spread.l1 k rs most out (i : Int) j = bonsairef06_Spread.l0 (k - (d + 1)) rs most (out ++ List.replicate d rs[i].f0) ((i + 1 : Nat) : Int) := by
  intro d
  induction d with
  | zero =>
    intro  k out j h0 hd hk ho
    obtain ⟨k, rfl⟩ : ∃ k', k = k' + 1 := ⟨k - 1, by omega⟩
    unfold bonsairef06_Spread.l1
    rw [if_pos (by omega), if_pos (by omega), rd53_at rs i hi, if_neg (by omega), w64 (by omega) (by omega)]
    simp
  | succ d ih =>
    intro  k out j h0 hd hk ho
    obtain ⟨k, rfl⟩ : ∃ k', k = k' + 1 := ⟨k - 1, by omega⟩
    unfold bonsairef06_Spread.l1
    rw [if_pos (by omega), if_pos (by omega), rd53_at rs i hi, if_pos (by omega), if_pos (by omega), w64 (n := j + 1) (by omega) (by omega)]
    rw [ih k _ (j + 1) (by omega) (by omega) (by omega) (by simp; omega), rep_add]
    congr 1
    omega
theorem refSpread_l (rs : List S53) (most : Int) (hl : (rs.length : Int) ≤ 1000000000000) (hm : most ≤ 1000000) (hr : ∀ r ∈ rs, 0 ≤ r.f1) (K : Nat) (hK : 1000002 ≤ K) : ∀ (d k i : Nat) (out : List Int), i + d = rs.length → d * K + 1 ≤ k → (out.length : Int) ≤ most →
    bonsairef06_Spread.l0 k rs most out (i : Int) = some (sL most (rs.drop i) out) := by
  intro d
  induction d with
  | zero =>
    intro  k i out hd hk ho
    obtain ⟨k, rfl⟩ : ∃ k', k = k' + 1 := ⟨k - 1, by omega⟩
    unfold bonsairef06_Spread.l0
    rw [if_neg (by omega), List.drop_eq_nil_of_le (by omega)]
    rfl
  | succ d ih =>
    intro  k i out hd hk ho
    obtain ⟨k, rfl⟩ : ∃ k', k = k' + 1 := ⟨k - 1, by omega⟩
    rw [Nat.succ_mul] at hk
    generalize d * K = D at hk ih
    have hi : i < rs.length := by omega
    have h0 := hr rs[i] (List.getElem_mem hi)
    unfold bonsairef06_Spread.l0
    rw [if_pos (by omega), if_pos (by omega), rd53_at rs i hi, drop_at rs i hi, w64 (n := most - out.length) (by omega) (by omega)]
    unfold sL
    by_cases h : rs[i].f1 > most - out.length
    · rw [if_pos h, if_pos h]
    · rw [if_neg h, if_neg h, refSpread_l1 rs most i hi hl (by omega) rs[i].f1.toNat k out 0 (by omega) (by omega) (by omega) (by omega)]
      exact ih _ (i + 1) _ (by omega) (by omega) (by rw [List.length_append, List.length_replicate]; omega)
noncomputable def spreadTo (rs : List S53) (most : Int) : List Int × Bool := by
  classical exact if MayR rs ∧ ((spread rs).length : Int) ≤ most then (spread rs, true) else ([], false)
theorem MayR.pos {rs : List S53} (h : MayR rs) : ∀ r ∈ rs, 1 ≤ r.f1 := fun r hr => by
  obtain ⟨i, hi, rfl⟩ := List.getElem_of_mem hr
  exact ((may_iff rs).mp h).1 i hi
theorem spread_some (rs : List S53) (most : Int) (hl : (rs.length : Int) ≤ 1000000000000) (hm : most ≤ 1000000) (hm0 : -9223372036854775808 ≤ most) (k : Nat) (K : Nat) (hK : 1000002 ≤ K) (hk : rs.length * K + rs.length + 3 ≤ k) :
    runs_Spread.f k rs most = some (spreadTo rs most) ∧ bonsairef06_Spread.f k rs most = some (spreadTo rs most) := by
  obtain ⟨k, rfl⟩ : ∃ m, k = m + 1 := ⟨k - 1, by omega⟩
  obtain ⟨b, h1, h2, h3⟩ := may_some rs hl (k + 1) (by omega)
  unfold runs_Spread.f bonsairef06_Spread.f
  rw [h1, h2]
  simp only [Option.bind_some]
  have no : ¬ (MayR rs ∧ ((spread rs).length : Int) ≤ most) → spreadTo rs most = ([], false) := fun h => by unfold spreadTo; rw [if_neg h]
  cases b with
  | false =>
    have hn : ¬ MayR rs := fun h => by have := h3.mpr h; cases this
    simp only [Bool.false_eq_true, if_false, runs_Spread.j0, bonsairef06_Spread.j0, if_true]
    rw [no (fun h => hn h.1)]
    exact ⟨rfl, rfl⟩
  | true =>
    have hmay := h3.mp rfl
    have hr : ∀ r ∈ rs, 0 ≤ r.f1 := fun r hr => by have := MayR.pos hmay r hr; omega
    simp only [if_true, runs_Spread.j0, bonsairef06_Spread.j0]
    by_cases hneg : most < 0
    · rw [if_pos (by simpa using hneg), if_pos (by simpa using hneg), no (fun h => by have := h.2; omega)]
      exact ⟨rfl, rfl⟩
    · rw [if_neg (by simpa using hneg), if_neg (by simpa using hneg)]
      have e1 := spread_l rs most hl hm hr rs.length k 0 [] (by omega) (by omega) (by simp; omega)
      have e2 := refSpread_l rs most hl hm hr K hK rs.length k 0 [] (by omega) (by omega) (by simp; omega)
      simp only [Int.natCast_zero, List.drop_zero] at e1 e2
      rw [e1, e2, sL_is most rs [] hr (by simp; omega), List.nil_append]
      unfold spreadTo
      by_cases hle : ((spread rs).length : Int) ≤ most
      · rw [if_pos hle, if_pos ⟨hmay, hle⟩]; exact ⟨rfl, rfl⟩
      · rw [if_neg hle, if_neg (fun h => hle h.2)]; exact ⟨rfl, rfl⟩
noncomputable def put (x : Int) : ByteArray := strOfNums (putL 9 x)
noncomputable def encR : List S53 → ByteArray
  | [] => noText
  | r :: rs => (put r.f0 ++ put r.f1) ++ encR rs
def Wf (rs : List S53) : Prop := ∀ r ∈ rs, (0 ≤ r.f0 ∧ r.f0 < 18446744073709551616) ∧ 0 ≤ r.f1 ∧ r.f1 < 9223372036854775808
end Go.Proofs.Ytbgjoiccehiglaa.LibW
end
section
namespace Go.Proofs.Ytbgjoiccehiglaa.LibX
open Go.RowKit Go.Proofs.Ytbgjoiccehiglaa.Print Go.Proofs.YtbgjoiccehiglaaW.PrintWords Go.Proofs.YtbgjoiccehiglaaW.PrintLast Go.Proofs.YtbgjoiccehiglaaW.PrintMore Go.Proofs.Ytbgjoiccehiglaa.LibU Go.Proofs.Ytbgjoiccehiglaa.LibV Go.Proofs.Ytbgjoiccehiglaa.LibW Go.Proofs.Ytbgjoiccehiglaa.LibC Go.Proofs.Ytbgjoiccehiglaa.LibD Go.Proofs.Ytbgjoiccehiglaa.LibE Go.Proofs.Ytbgjoiccehiglaa.LibG
def numT (s : ByteArray) : Int × ByteArray × Int := if (numL s 10 0 0).1 = 0 then ((numL s 10 0 0).2.1, s.extract (numL s 10 0 0).2.2.toNat s.size, 0) else (0, s, (numL s 10 0 0).1)
theorem num_numT (s : ByteArray) (hs : s.size ≤ 9223372036854775000) : pack_Reader_Num.f s 0 = some (numT s) := by
  unfold pack_Reader_Num.f numT
  rw [if_pos hs, if_pos rfl]
  split <;> rfl
theorem num_err (s : ByteArray) (hs : s.size ≤ 9223372036854775000) {e : Int} (he : e ≠ 0) : pack_Reader_Num.f s e = some (0, s, e) := by
  unfold pack_Reader_Num.f
  rw [if_pos hs, if_neg he]
theorem numT_size (s : ByteArray) : (numT s).2.1.size ≤ s.size := by
  unfold numT
  split
  · simp only [ByteArray.size_extract]; omega
  · exact Nat.le_refl _
theorem numT_range (s : ByteArray) (hs : s.size ≤ 9223372036854775000) : 0 ≤ (numT s).1 ∧ (numT s).1 < 18446744073709551616 ∧ ((numT s).2.2 = 0 → (numT s).2.1.size < s.size) := by
  obtain ⟨h1, h2⟩ := numL_is s 10 0 0 (by omega) (by omega) (by omega) (by omega) (by decide)
  unfold numT
  split
  · rename_i h
    have := h1 h
    exact ⟨this.1, this.2.1, fun _ => by simp only [ByteArray.size_extract]; omega⟩
  · rename_i h
    exact ⟨Int.le_refl _, by show (0 : Int) < _; omega, fun h' => absurd h' h⟩
theorem numT_was (s : ByteArray) (hs : s.size ≤ 9223372036854775000) (h : (numT s).2.2 = 0) : s = put (numT s).1 ++ (numT s).2.1 := by
  obtain ⟨h1, h2⟩ := numL_is s 10 0 0 (by omega) (by omega) (by omega) (by omega) (by decide)
  have he : (numL s 10 0 0).1 = 0 := by
    unfold numT at h
    split at h
    · assumption
    · exact h
  have := h1 he
  have h3 := read_put s he
  have h4 := take_drop s (numL s 10 0 0).2.2.toNat (by omega)
  unfold numT put
  rw [if_pos he]
  simp only
  rw [← h3, h4]
theorem noText_of {s : ByteArray} (h : s.size = 0) : s = noText := by
  refine ba_ext (by rw [h]; rfl) (fun i h0 h1 => by omega)
def lastIs (rs : List S53) (v : Int) : Prop := ∃ a r, rs = a ++ [r] ∧ r.f0 = v
open Classical in
noncomputable def dR : Nat → ByteArray → List S53 → Int → List S53 × Int
  | 0, _, rs, _ => (rs, 99)
  | d + 1, s, rs, left =>
    if s.size = 0 then (if left > 0 then ([], 5) else (rs, 0)) else
    if (numT s).2.2 ≠ 0 then ([], (numT s).2.2) else
    if (numT (numT s).2.1).2.2 ≠ 0 then ([], (numT (numT s).2.1).2.2) else
    if (numT (numT s).2.1).1 = 0 ∨ (numT (numT s).2.1).1 > left ∨ lastIs rs (numT s).1 then ([], 5) else
    dR d (numT (numT s).2.1).2.1 (rs ++ [(⟨(numT s).1, (numT (numT s).2.1).1⟩ : S53)]) (left - (numT (numT s).2.1).1)
def fin (p : List S53 × Int) : List Int × Int := if p.2 = 0 then (spread p.1, 0) else ([], p.2)
theorem may_push {rs : List S53} (h : MayR rs) {v c : Int} (hc : 1 ≤ c) (hl : ¬ lastIs rs v) : MayR (rs ++ [(⟨v, c⟩ : S53)]) := by
  rcases snoc_cases rs with rfl | ⟨a, q, rfl⟩
  · exact .one _ hc
  · exact .snoc _ _ _ h hc (fun he => hl ⟨a, q, rfl, he⟩)
theorem spread_cons (r : S53) (b : List S53) : spread (r :: b) = List.replicate r.f1.toNat r.f0 ++ spread b := by simp [spread]
theorem last_spread {rs : List S53} (h : MayR rs) {v : Int} : lastIs rs v ↔ ∃ a, spread rs = a ++ [v] := by
  rcases snoc_cases rs with rfl | ⟨b, r, rfl⟩
  · constructor
    · rintro ⟨a, q, he, _⟩; simp at he
    · rintro ⟨a, ha⟩; simp [spread] at ha
  · have h1 := h.last
    have hs : spread (b ++ [r]) = (spread b ++ List.replicate (r.f1.toNat - 1) r.f0) ++ [r.f0] := by
      rw [spread_snoc, List.append_assoc, ← List.replicate_succ', show r.f1.toNat - 1 + 1 = r.f1.toNat by omega]
    constructor
    · rintro ⟨a, q, he, hv⟩
      obtain ⟨rfl, rfl⟩ := snoc_inj he
      exact ⟨_, hv ▸ hs⟩
    · rintro ⟨a, ha⟩
      rw [hs] at ha
      exact ⟨b, r, rfl, (snoc_inj ha).2⟩
theorem w64' {x : Int} (h0 : 0 ≤ x) (h1 : x < 18446744073709551616) : IntKind.u64.wrap x = x := pack_wraps_u64 x h0 h1
theorem dec_l (n : Int) (hn0 : 0 ≤ n) (hn : n ≤ 4096) (K : Nat) (hK : 1000002 ≤ K) : ∀ (d k : Nat) (s : ByteArray) (rs : List S53) (left : Int), s.size < d → s.size ≤ 9223372036854775000 → d * K + 5000 * K + 5000 ≤ k → MayR rs → 0 ≤ left → left + (spread rs).length = n →
    runs_Decode.l0 k n rs left s 0 = some (fin (dR d s rs left)) := by
  intro d
  induction d with
  | zero => intro k s rs left hd; omega
  | succ d ih =>
    intro k s rs left hd hs hk hm h0 hl
    obtain ⟨k, rfl⟩ : ∃ m, k = m + 1 := ⟨k - 1, by omega⟩
    rw [Nat.succ_mul] at hk
    have hrl := len_spread hm
    have hmul : rs.length * K ≤ 4096 * K := Nat.mul_le_mul_right K (by omega)
    unfold runs_Decode.l0 dR
    simp only [pack_Reader_Left.f, Option.bind_some]
    by_cases hz : s.size = 0
    · rw [if_neg (by omega), if_pos hz]
      by_cases h1 : left > 0
      · rw [if_pos h1, if_pos h1]; rfl
      · rw [if_neg h1, if_neg h1, (spread_some rs n (by omega) (by omega) (by omega) k K hK (by omega)).1]
        unfold spreadTo fin
        rw [if_pos ⟨hm, by omega⟩]
        rfl
    · have r1 := numT_range s hs
      have z1 := numT_size s
      have r2 := numT_range (numT s).2.1 (by omega)
      have z2 := numT_size (numT s).2.1
      rw [if_pos (by omega), if_neg hz, num_numT s hs]
      simp only [Option.bind_some]
      by_cases e1 : (numT s).2.2 = 0
      · rw [if_neg (c := _ ≠ _) (fun h => h e1), e1, num_numT _ (by omega)]
        simp only [Option.bind_some, pack_Reader_Err.f]
        by_cases e2 : (numT (numT s).2.1).2.2 = 0
        · rw [if_pos e2, if_neg (c := _ ≠ _) (fun h => h e2), e2]
          have hlast : lastIs rs (numT s).1 ↔ 0 < rs.length ∧ (rd_T53 rs ((rs.length : Int) - 1)).f0 = (numT s).1 := by
            rcases snoc_cases rs with rfl | ⟨a, q, rfl⟩
            · exact ⟨fun ⟨a, q, he, _⟩ => by simp at he, fun h => by simp at h⟩
            · have : rd_T53 (a ++ [q]) (((a ++ [q]).length : Int) - 1) = q := by
                rw [show (((a ++ [q]).length : Int) - 1) = (a.length : Int) by simp]; exact rd53_last a q
              rw [this]
              exact ⟨fun ⟨b, r, he, hv⟩ => by obtain ⟨_, rfl⟩ := snoc_inj he; exact ⟨by simp, hv⟩, fun h => ⟨a, q, rfl, h.2⟩⟩
          rw [w64' (x := left) h0 (by omega), w64 (n := (rs.length : Int) - 1) (by omega) (by omega)]
          by_cases c0 : (numT (numT s).2.1).1 = 0
          · rw [if_pos c0, if_pos (.inl c0)]; rfl
          · rw [if_neg c0]
            by_cases c1 : (numT (numT s).2.1).1 > left
            · rw [if_pos c1, if_pos (.inr (.inl c1))]; rfl
            · rw [if_neg c1, w64 (n := (numT (numT s).2.1).1) (by omega) (by omega), w64 (n := left - (numT (numT s).2.1).1) (by omega) (by omega)]
              by_cases c2 : lastIs rs (numT s).1
              · have := hlast.mp c2
                rw [if_pos (by omega), if_pos (by omega), if_pos (by omega), if_pos this.2, if_pos (.inr (.inr c2))]; rfl
              · rw [if_neg (c := _ ∨ _) (fun h => h.elim c0 (fun h => h.elim c1 c2))]
                have go := ih k (numT (numT s).2.1).2.1 (rs ++ [(⟨(numT s).1, (numT (numT s).2.1).1⟩ : S53)]) (left - (numT (numT s).2.1).1) (by have := r1.2.2 e1; omega) (by omega) (by omega) (may_push hm (by omega) c2) (by omega)
                  (by rw [spread_snoc, List.length_append, List.length_replicate]; simp only; omega)
                by_cases c3 : (rs.length : Int) - 1 ≥ 0
                · rw [if_pos c3, if_pos (by omega), if_pos (by omega), if_neg (fun h => c2 (hlast.mpr ⟨by omega, h⟩)), if_pos (by omega)]
                  exact go
                · rw [if_neg c3, if_pos (by omega)]
                  exact go
        · rw [if_neg e2, if_pos e2]
          unfold fin
          rw [if_neg e2]
      · rw [if_pos e1, num_err _ (by omega) e1]
        simp only [Option.bind_some, pack_Reader_Err.f]
        rw [if_neg e1]
        unfold fin
        rw [if_neg e1]
noncomputable def decTo (s : ByteArray) (n : Int) : List Int × Int := if n < 0 then ([], 1) else if n > 4096 then ([], 10) else fin (dR (s.size + 1) s [] n)
theorem dec_some (s : ByteArray) (hs : s.size ≤ 140737488351232) (n : Int) (K : Nat) (hK : 1000002 ≤ K) (k : Nat) (hk : (s.size + 1) * K + 5000 * K + 5000 ≤ k) : runs_Decode.f k s n = some (decTo s n) := by
  unfold runs_Decode.f decTo
  by_cases h0 : n < 0
  · rw [if_pos h0, if_pos h0]
  · by_cases h1 : n > 4096
    · rw [if_neg h0, if_pos h1, if_neg h0, if_pos h1]
    · rw [if_neg h0, if_neg h1, if_neg h0, if_neg h1]
      simp only [pack_New.f, Option.bind_some]
      exact dec_l n (by omega) (by omega) K hK (s.size + 1) k s [] n (by omega) (by omega) hk .nil (by omega) (by simp [spread])
theorem ref_l1 (n v : Int) (S : ByteArray) (a : Int) : ∀ (d k : Nat) (out : List Int) (c j : Int), 0 ≤ j → j + d = c → c ≤ 1000000 → d + 1 ≤ k → (out.length : Int) + d ≤ 1000000 →
    bonsairef06_Decode.l1 k n out v c j S a 0 = bonsairef06_Decode.l0 (k - (d + 1)) n (out ++ List.replicate d v) S a 0 := by
  intro d
  induction d with
  | zero =>
    intro k out c j h0 hd hc hk ho
    obtain ⟨k, rfl⟩ : ∃ m, k = m + 1 := ⟨k - 1, by omega⟩
    unfold bonsairef06_Decode.l1
    rw [if_neg (by omega)]
    simp
  | succ d ih =>
    intro k out c j h0 hd hc hk ho
    obtain ⟨k, rfl⟩ : ∃ m, k = m + 1 := ⟨k - 1, by omega⟩
    unfold bonsairef06_Decode.l1
    rw [if_pos (by omega), if_pos (by omega), w64' (x := j + 1) (by omega) (by omega), ih k _ c (j + 1) (by omega) (by omega) hc (by omega) (by simp; omega), rep_add]
    congr 1
    omega
theorem refDec_l (n : Int) (hn0 : 0 ≤ n) (hn : n ≤ 4096) (S : ByteArray) (K : Nat) (hK : 1000002 ≤ K) : ∀ (d k : Nat) (s : ByteArray) (a : Int) (rs : List S53) (left : Int), s.size < d → Sim S a s → d * K + K ≤ k → MayR rs → 0 ≤ left → left + (spread rs).length = n →
    bonsairef06_Decode.l0 k n (spread rs) S a 0 = some (fin (dR d s rs left)) := by
  intro d
  induction d with
  | zero => intro k s a rs left hd; omega
  | succ d ih =>
    intro k s a rs left hd hS hk hm h0 hl
    obtain ⟨k, rfl⟩ : ∃ m, k = m + 1 := ⟨k - 1, by omega⟩
    rw [Nat.succ_mul] at hk
    have hsz := hS.size
    have hlo := hS.lo
    have hbig := hS.big
    have hs : s.size ≤ 9223372036854775000 := by omega
    unfold bonsairef06_Decode.l0 dR
    rw [(hS.left 0).2]
    simp only [Option.bind_some]
    by_cases hz : s.size = 0
    · rw [if_neg (by omega), if_pos hz]
      by_cases h1 : left > 0
      · rw [if_pos h1, if_pos (by omega)]; rfl
      · rw [if_neg h1, if_neg (by omega)]; rfl
    · have r1 := numT_range s hs
      have z1 := numT_size s
      have r2 := numT_range (numT s).2.1 (by omega)
      have z2 := numT_size (numT s).2.1
      rw [if_pos (by omega), if_neg hz]
      obtain ⟨v, s1, e1', a1, hp, hr, hS1, _, _, _, _, _, hf1⟩ := hS.num 0
      rw [num_numT s hs] at hp
      obtain ⟨hv1, hs1, he1⟩ : (numT s).1 = v ∧ (numT s).2.1 = s1 ∧ (numT s).2.2 = e1' := by
        have := Option.some.inj hp
        rw [this]; exact ⟨rfl, rfl, rfl⟩
      rw [hr k (by omega)]
      simp only [Option.bind_some]
      rw [hs1] at r1 z1 r2 z2
      rw [he1] at r1
      rw [hv1] at r1
      rw [hs1, he1, hv1]
      by_cases e1 : e1' = 0
      · rw [if_neg (c := _ ≠ _) (fun h => h e1), e1]
        obtain ⟨c, s2, e2', a2, hp2, hr2, hS2, _, _, _, _, _, hf2⟩ := hS1.num 0
        rw [num_numT s1 (by omega)] at hp2
        obtain ⟨hv2, hs2, he2⟩ : (numT s1).1 = c ∧ (numT s1).2.1 = s2 ∧ (numT s1).2.2 = e2' := by
          have := Option.some.inj hp2
          rw [this]; exact ⟨rfl, rfl, rfl⟩
        rw [hr2 k (by omega)]
        simp only [Option.bind_some]
        rw [hs2, hv2, he2] at r2
        rw [hs2] at z2
        rw [hs2, he2, hv2]
        by_cases e2 : e2' = 0
        · rw [if_pos e2, if_neg (c := _ ≠ _) (fun h => h e2), e2]
          rw [w64 (n := n - (spread rs).length) (by omega) (by omega), show n - (spread rs).length = left by omega, w64' (x := left) h0 (by omega), w64 (n := ((spread rs).length : Int) - 1) (by omega) (by omega)]
          have hyes : ∀ k' X, X = true → bonsairef06_Decode.j1 (k' + 1) n (spread rs) v c X S a2 0 = some (fin ([], 5)) := by
            rintro k' X rfl
            simp only [bonsairef06_Decode.j1, if_true]; rfl
          obtain ⟨k', rfl⟩ : ∃ m, k = m + 1 := ⟨k - 1, by omega⟩
          by_cases c0 : c = 0
          · rw [if_pos c0, if_pos (.inl c0)]; exact hyes k' _ rfl
          · rw [if_neg c0]
            by_cases c1 : c > left
            · rw [if_pos c1, if_pos (.inr (.inl c1))]; exact hyes k' _ rfl
            · rw [if_neg c1]
              have hno : ∀ X, X = false → ¬ lastIs rs v → bonsairef06_Decode.j1 (k' + 1) n (spread rs) v c X S a2 0 = some (fin (dR d s2 (rs ++ [(⟨v, c⟩ : S53)]) (left - c))) := by
                rintro X rfl c2
                simp only [bonsairef06_Decode.j1, Bool.false_eq_true, if_false]
                rw [ref_l1 n v S a2 c.toNat k' (spread rs) c 0 (by omega) (by omega) (by omega) (by omega) (by omega)]
                have hsp : spread rs ++ List.replicate c.toNat v = spread (rs ++ [(⟨v, c⟩ : S53)]) := (spread_snoc rs ⟨v, c⟩).symm
                rw [hsp]
                exact ih _ s2 a2 _ (left - c) (by have := r1.2.2 e1; omega) hS2 (by omega) (may_push hm (by omega) c2) (by omega) (by rw [← hsp, List.length_append, List.length_replicate]; omega)
              by_cases c2 : lastIs rs v
              · rw [if_pos (c := _ ∨ _) (.inr (.inr c2))]
                obtain ⟨b, hb⟩ := (last_spread hm).mp c2
                have hzl : ((spread rs).length : Int) = b.length + 1 := by rw [hb]; simp
                have hX : rd (spread rs) (((spread rs).length : Int) - 1) = v := by
                  rw [hb, show ((b ++ [v]).length : Int) - 1 = ((b.length : Nat) : Int) by simp, rd_at _ _ (by simp)]
                  simp
                rw [if_pos (by omega), if_pos (by omega), if_pos (by omega), hX]
                exact hyes k' _ (by simp)
              · rw [if_neg (c := _ ∨ _) (fun h => h.elim c0 (fun h => h.elim c1 c2))]
                rcases snoc_cases (spread rs) with he | ⟨b, x, hb⟩
                · rw [if_neg (by rw [he]; simp)]
                  exact hno _ rfl c2
                · have hzl : ((spread rs).length : Int) = b.length + 1 := by rw [hb]; simp
                  rw [if_pos (by omega), if_pos (by omega), if_pos (by omega)]
                  refine hno _ ?_ c2
                  rw [hb, show ((b ++ [x]).length : Int) - 1 = ((b.length : Nat) : Int) by simp, rd_at _ _ (by simp)]
                  simp only [List.getElem_concat_length, beq_eq_false_iff_ne, ne_eq]
                  rintro rfl
                  exact c2 ((last_spread hm).mpr ⟨b, hb⟩)
        · rw [if_neg e2, if_pos e2]
          unfold fin
          rw [if_neg e2]
      · rw [if_pos e1]
        obtain ⟨c, s2, e2', a2, hp2, hr2, hS2, _, _, hk2, _, _, hf2⟩ := hS1.num e1'
        obtain ⟨rfl, rfl, rfl, rfl⟩ := hk2 e1
        rw [hr2 k (by omega)]
        simp only [Option.bind_some]
        rw [if_neg e1]
        unfold fin
        rw [if_neg e1]
theorem refDec_some (s : ByteArray) (hs : s.size ≤ 140737488351232) (n : Int) (K : Nat) (hK : 1000002 ≤ K) (k : Nat) (hk : (s.size + 1) * K + K ≤ k) : bonsairef06_Decode.f k s n = some (decTo s n) := by
  unfold bonsairef06_Decode.f decTo
  by_cases h0 : n < 0
  · rw [if_pos h0, if_pos h0]
  · by_cases h1 : n > 4096
    · rw [if_neg h0, if_pos h1, if_neg h0, if_pos h1]
    · rw [if_neg h0, if_neg h1, if_neg h0, if_neg h1]
      have hS := Sim.begin s hs 0 (by omega) (by omega)
      have hx : s.extract (0 : Int).toNat s.size = s := by simp
      rw [hx] at hS
      exact refDec_l n (by omega) (by omega) s K hK (s.size + 1) k s 0 [] n (by omega) hS hk .nil (by omega) (by simp [spread])
theorem dR_was : ∀ (d : Nat) (s : ByteArray) (a : List S53) (left : Int), s.size ≤ 9223372036854775000 → MayR a → 0 ≤ left → left ≤ 4096 → (dR d s a left).2 = 0 →
    ∃ b, (dR d s a left).1 = a ++ b ∧ s = encR b ∧ MayR (a ++ b) ∧ ((spread b).length : Int) = left ∧ Wf b := by
  intro d
  induction d with
  | zero => intro s a left _ _ _ _ h; exact absurd h (by simp [dR])
  | succ d ih =>
    intro s a left hs hm h0 h4 h
    unfold dR at h ⊢
    have r1 := numT_range s hs
    have z1 := numT_size s
    have r2 := numT_range (numT s).2.1 (by omega)
    have z2 := numT_size (numT s).2.1
    by_cases hz : s.size = 0
    · rw [if_pos hz] at h ⊢
      by_cases hp : left > 0
      · rw [if_pos hp] at h; exact absurd h (by simp)
      · rw [if_neg hp]
        exact ⟨[], by simp, noText_of hz, by simpa using hm, by simp [spread]; omega, fun r hr => by simp at hr⟩
    · rw [if_neg hz] at h ⊢
      by_cases e1 : (numT s).2.2 = 0
      · rw [if_neg (c := _ ≠ _) (fun h => h e1)] at h ⊢
        by_cases e2 : (numT (numT s).2.1).2.2 = 0
        · rw [if_neg (c := _ ≠ _) (fun h => h e2)] at h ⊢
          by_cases hc : (numT (numT s).2.1).1 = 0 ∨ (numT (numT s).2.1).1 > left ∨ lastIs a (numT s).1
          · rw [if_pos hc] at h; exact absurd h (by simp)
          · rw [if_neg hc] at h ⊢
            have hl : ¬ lastIs a (numT s).1 := fun h => hc (.inr (.inr h))
            have hc0 : (numT (numT s).2.1).1 ≠ 0 := fun h => hc (.inl h)
            have hc1 : ¬ (numT (numT s).2.1).1 > left := fun h => hc (.inr (.inl h))
            obtain ⟨b, h1, h2, h3, h4, h5⟩ := ih _ _ _ (by omega) (may_push hm (v := (numT s).1) (c := (numT (numT s).2.1).1) (by omega) hl) (by omega) (by omega) h
            refine ⟨⟨(numT s).1, (numT (numT s).2.1).1⟩ :: b, by rw [h1]; simp, ?_, by simpa using h3, by rw [spread_cons, List.length_append, List.length_replicate]; show (((numT (numT s).2.1).1.toNat + _ : Nat) : Int) = _; omega, fun r hr => ?_⟩
            · have w1 := numT_was s hs e1
              have w2 := numT_was (numT s).2.1 (by omega) e2
              show s = (put (numT s).1 ++ put (numT (numT s).2.1).1) ++ encR b
              rw [← h2, ByteArray.append_assoc, ← w2]
              exact w1
            · rcases List.mem_cons.mp hr with rfl | hr
              · exact ⟨⟨r1.1, r1.2.1⟩, r2.1, by show (numT (numT s).2.1).1 < _; omega⟩
              · exact h5 r hr
        · rw [if_pos e2] at h; exact absurd h e2
      · rw [if_pos e1] at h; exact absurd h e1
theorem dec_was (s : ByteArray) (hs : s.size ≤ 140737488351232) (n : Int) : ((decTo s n).2 = 0 → ((decTo s n).1.length : Int) = n ∧ encR (runs (decTo s n).1) = s ∧ ∀ x ∈ (decTo s n).1, 0 ≤ x ∧ x < 18446744073709551616) ∧ ((decTo s n).2 ≠ 0 → (decTo s n).1 = []) := by
  unfold decTo
  by_cases h0 : n < 0
  · rw [if_pos h0]; exact ⟨fun h => absurd h (by decide), fun _ => rfl⟩
  · by_cases h1 : n > 4096
    · rw [if_neg h0, if_pos h1]; exact ⟨fun h => absurd h (by decide), fun _ => rfl⟩
    · rw [if_neg h0, if_neg h1]
      unfold fin
      by_cases he : (dR (s.size + 1) s [] n).2 = 0
      · rw [if_pos he]
        refine ⟨fun _ => ?_, fun h => absurd rfl h⟩
        obtain ⟨b, e1, e2, e3, e4, e5⟩ := dR_was (s.size + 1) s [] n (by omega) .nil (by omega) (by omega) he
        simp only [List.nil_append] at e1 e3
        rw [e1]
        refine ⟨e4, ?_, fun x hx => ?_⟩
        · simp only; rw [runs_spread e3, ← e2]
        · simp only [spread, List.mem_flatMap] at hx
          obtain ⟨r, hr, hx⟩ := hx
          obtain rfl := List.eq_of_mem_replicate hx
          exact (e5 r hr).1
      · rw [if_neg he]
        exact ⟨fun h => absurd h he, fun _ => rfl⟩
end Go.Proofs.Ytbgjoiccehiglaa.LibX
end
namespace Go.Proofs.Ytbgjoiccehiglaa.LibY
end Go.Proofs.Ytbgjoiccehiglaa.LibY
namespace Go.Proofs.Ytbgjoiccehiglaa.Print
end Go.Proofs.Ytbgjoiccehiglaa.Print
namespace Go.Proofs.Ytbgjoiccehiglaa.Pure
end Go.Proofs.Ytbgjoiccehiglaa.Pure
section
namespace Go.Proofs.Ytbgjoiccehiglaa.LibK
open Go.RowKit Go.Proofs.Ytbgjoiccehiglaa.Print Go.Proofs.YtbgjoiccehiglaaW.PrintWords Go.Proofs.YtbgjoiccehiglaaW.PrintLast Go.Proofs.YtbgjoiccehiglaaW.PrintMore Go.Proofs.Ytbgjoiccehiglaa.LibU Go.Proofs.Ytbgjoiccehiglaa.LibV Go.Proofs.Ytbgjoiccehiglaa.LibW Go.Proofs.Ytbgjoiccehiglaa.LibX Go.Proofs.Ytbgjoiccehiglaa.LibY
theorem tl_eq (a b : ByteArray) : a.toList = b.toList ↔ a = b := by
  rw [ByteArray.toList_eq, ByteArray.toList_eq, Array.toList_inj]
  exact ⟨fun h => ByteArray.ext h, fun h => h ▸ rfl⟩
theorem dl_eq (a b : ByteArray) : a.data.toList = b.data.toList ↔ a = b := by
  rw [Array.toList_inj]
  exact ⟨fun h => ByteArray.ext h, fun h => h ▸ rfl⟩
theorem rd_txt {l : List ByteArray} {i : Nat} (h : i < l.length) : rdOf ByteArray.empty l (i : Int) = l[i] := by
  simp [rdOf, List.getD_eq_getElem?_getD, h]
theorem same4_l (a b : List ByteArray) (hl : (a.length : Int) ≤ 1000000000000) (hab : a.length = b.length) : ∀ (d k i : Nat), i + d = a.length → d + 1 ≤ k → bonsairef04_Same.l0 k a b (i : Int) = some (decide (a.drop i = b.drop i))
  | 0, k, i, hd, hk => by
    obtain ⟨k, rfl⟩ : ∃ k', k = k' + 1 := ⟨k - 1, by omega⟩
    unfold bonsairef04_Same.l0
    rw [if_neg (by omega), List.drop_eq_nil_of_le (by omega), List.drop_eq_nil_of_le (by omega)]
    simp
  | d + 1, k, i, hd, hk => by
    obtain ⟨k, rfl⟩ : ∃ k', k = k' + 1 := ⟨k - 1, by omega⟩
    have hi : i < a.length := by omega
    have hj : i < b.length := by omega
    unfold bonsairef04_Same.l0
    rw [if_pos (by omega), if_pos (by omega), if_pos (by omega), rd_txt hi, rd_txt hj, w64 (by omega) (by omega), show (i : Int) + 1 = ((i + 1 : Nat) : Int) by omega]
    rw [same4_l a b hl hab d k (i + 1) (by omega) (by omega)]
    have e : a.drop i = b.drop i ↔ a[i] = b[i] ∧ a.drop (i + 1) = b.drop (i + 1) := by rw [List.drop_eq_getElem_cons hi, List.drop_eq_getElem_cons hj, List.cons.injEq]
    by_cases h : a[i] = b[i]
    · rw [if_pos ((tl_eq _ _).mpr h)]
      congr 1
      rw [decide_eq_decide, e]
      exact ⟨fun h' => ⟨h, h'⟩, fun h' => h'.2⟩
    · rw [if_neg (fun h' => h ((tl_eq _ _).mp h'))]
      congr 1
      symm
      rw [decide_eq_false_iff_not, e]
      exact fun h' => h h'.1
theorem same4 (a b : List ByteArray) (hl : (a.length : Int) ≤ 1000000000000) (k : Nat) (hk : a.length + 1 ≤ k) : bonsairef04_Same.f k a b = some (decide (a = b)) := by
  unfold bonsairef04_Same.f
  by_cases h : a.length = b.length
  · rw [if_pos (by omega)]
    have := same4_l a b hl h a.length k 0 (by omega) (by omega)
    simpa using this
  · rw [if_neg (by omega)]
    have : a ≠ b := fun e => h (by rw [e])
    simp [this]
theorem same6_l (a b : List Int) (hl : (a.length : Int) ≤ 1000000000000) (hab : a.length = b.length) : ∀ (d k i : Nat), i + d = a.length → d + 1 ≤ k → bonsairef06_Same.l0 k a b (i : Int) = some (decide (a.drop i = b.drop i))
  | 0, k, i, hd, hk => by
    obtain ⟨k, rfl⟩ : ∃ k', k = k' + 1 := ⟨k - 1, by omega⟩
    unfold bonsairef06_Same.l0
    rw [if_neg (by omega), List.drop_eq_nil_of_le (by omega), List.drop_eq_nil_of_le (by omega)]
    simp
  | d + 1, k, i, hd, hk => by
    obtain ⟨k, rfl⟩ : ∃ k', k = k' + 1 := ⟨k - 1, by omega⟩
    have hi : i < a.length := by omega
    have hj : i < b.length := by omega
    unfold bonsairef06_Same.l0
    rw [if_pos (by omega), if_pos (by omega), if_pos (by omega), rd_at a i hi, rd_at b i hj, w64 (by omega) (by omega), show (i : Int) + 1 = ((i + 1 : Nat) : Int) by omega]
    rw [same6_l a b hl hab d k (i + 1) (by omega) (by omega)]
    have e : a.drop i = b.drop i ↔ a[i] = b[i] ∧ a.drop (i + 1) = b.drop (i + 1) := by rw [List.drop_eq_getElem_cons hi, List.drop_eq_getElem_cons hj, List.cons.injEq]
    by_cases h : a[i] = b[i]
    · rw [if_pos h]
      congr 1
      rw [decide_eq_decide, e]
      exact ⟨fun h' => ⟨h, h'⟩, fun h' => h'.2⟩
    · rw [if_neg h]
      congr 1
      symm
      rw [decide_eq_false_iff_not, e]
      exact fun h' => h h'.1
theorem same6 (a b : List Int) (hl : (a.length : Int) ≤ 1000000000000) (k : Nat) (hk : a.length + 1 ≤ k) : bonsairef06_Same.f k a b = some (decide (a = b)) := by
  unfold bonsairef06_Same.f
  by_cases h : a.length = b.length
  · rw [if_pos (by omega)]
    have := same6_l a b hl h a.length k 0 (by omega) (by omega)
    simpa using this
  · rw [if_neg (by omega)]
    have : a ≠ b := fun e => h (by rw [e])
    simp [this]
def placeOf (w : List ByteArray) (s : ByteArray) : Int := match wordAt s w 0 with | some j => (j : Int) | none => (w.length : Int)
theorem place_l (w : List ByteArray) (s : ByteArray) (hl : (w.length : Int) ≤ 1000000000000) : ∀ (d k i : Nat), i + d = w.length → d + 1 ≤ k →
    bonsairef08_place.l0 k w s (i : Int) = some (match wordAt s (w.drop i) i with | some j => (j : Int) | none => (w.length : Int))
  | 0, k, i, hd, hk => by
    obtain ⟨k, rfl⟩ : ∃ k', k = k' + 1 := ⟨k - 1, by omega⟩
    unfold bonsairef08_place.l0
    rw [if_neg (by omega), List.drop_eq_nil_of_le (by omega)]
    rfl
  | d + 1, k, i, hd, hk => by
    obtain ⟨k, rfl⟩ : ∃ k', k = k' + 1 := ⟨k - 1, by omega⟩
    have hi : i < w.length := by omega
    unfold bonsairef08_place.l0
    rw [if_pos (by omega), if_pos (by omega), rd_txt hi, w64 (by omega) (by omega), show (i : Int) + 1 = ((i + 1 : Nat) : Int) by omega]
    rw [place_l w s hl d k (i + 1) (by omega) (by omega), List.drop_eq_getElem_cons hi]
    by_cases h : w[i] = s
    · rw [if_pos ((tl_eq _ _).mpr h)]
      simp only [wordAt]
      rw [if_pos ((dl_eq _ _).mpr h)]
    · rw [if_neg (fun h' => h ((tl_eq _ _).mp h'))]
      simp only [wordAt]
      rw [if_neg (fun h' => h ((dl_eq _ _).mp h'))]
theorem place_some (w : List ByteArray) (s : ByteArray) (hl : (w.length : Int) ≤ 1000000000000) (k : Nat) (hk : w.length + 1 ≤ k) : bonsairef08_place.f k w s = some (placeOf w s) := by
  have := place_l w s hl w.length k 0 (by omega) hk
  simpa [bonsairef08_place.f, placeOf] using this
theorem refWords_l (l : List ByteArray) (hl : (l.length : Int) ≤ 1000000000000) : ∀ (d k i : Nat) (w : List ByteArray) (a : List Int), i + d = l.length → w.length ≤ i → a.length = i → l.length + d + 2 ≤ k →
    bonsairef08_Words.l0 k l w a (i : Int) = some (dictG (l.drop i) w a)
  | 0, k, i, w, a, hd, hw, ha, hk => by
    obtain ⟨k, rfl⟩ : ∃ k', k = k' + 1 := ⟨k - 1, by omega⟩
    unfold bonsairef08_Words.l0
    rw [if_neg (by omega), List.drop_eq_nil_of_le (by omega)]
    rfl
  | d + 1, k, i, w, a, hd, hw, ha, hk => by
    obtain ⟨k, rfl⟩ : ∃ k', k = k' + 1 := ⟨k - 1, by omega⟩
    have hi : i < l.length := by omega
    unfold bonsairef08_Words.l0
    rw [if_pos (by omega), if_pos (by omega), rd_txt hi, w64 (by omega) (by omega), show (i : Int) + 1 = ((i + 1 : Nat) : Int) by omega]
    rw [place_some w _ (by omega) k (by omega), List.drop_eq_getElem_cons hi]
    simp only [Option.bind_some, placeOf, dictG]
    cases hq : wordAt l[i] w 0 with
    | none =>
      simp only
      rw [if_pos trivial, if_pos (by omega), if_pos (by omega), w64' (by omega) (by omega)]
      exact refWords_l l hl d k (i + 1) _ _ (by omega) (by simp; omega) (by simp; omega) (by omega)
    | some j =>
      have := wordAt_lt _ _ _ _ hq
      simp only
      rw [if_neg (by omega), if_pos (by omega), w64' (by omega) (by omega)]
      exact refWords_l l hl d k (i + 1) _ _ (by omega) (by omega) (by simp; omega) (by omega)
theorem refWords_some (l : List ByteArray) (hl : (l.length : Int) ≤ 1000000000000) (k : Nat) (hk : 2 * l.length + 2 ≤ k) : bonsairef08_Words.f k l = some (dictG l [] []) :=
  refWords_l l hl l.length k 0 [] [] (by omega) (Nat.le_refl _) rfl (by omega)
def Short (l : List ByteArray) : Prop := ∀ s ∈ l, s.size ≤ 140737488355328
def pickOf (w : List ByteArray) (at_ : List Int) : List ByteArray × Bool := match dictP w at_ [] with | none => ([], false) | some o => (o, true)
theorem refPick_l (w : List ByteArray) (l : List Int) (hw : (w.length : Int) ≤ 1000000000000) (hl : (l.length : Int) ≤ 1000000000000) (h0 : ∀ x ∈ l, 0 ≤ x) : ∀ (d k i : Nat) (o : List ByteArray), i + d = l.length → o.length = i → d + 1 ≤ k →
    bonsairef08_Pick.l0 k w l o (i : Int) = some (match dictP w (l.drop i) o with | none => ([], false) | some o => (o, true))
  | 0, k, i, o, hd, ho, hk => by
    obtain ⟨k, rfl⟩ : ∃ k', k = k' + 1 := ⟨k - 1, by omega⟩
    unfold bonsairef08_Pick.l0
    rw [if_neg (by omega), List.drop_eq_nil_of_le (by omega)]
    rfl
  | d + 1, k, i, o, hd, ho, hk => by
    obtain ⟨k, rfl⟩ : ∃ k', k = k' + 1 := ⟨k - 1, by omega⟩
    have hi : i < l.length := by omega
    have hx := h0 l[i] (List.getElem_mem hi)
    unfold bonsairef08_Pick.l0
    rw [if_pos (by omega), if_pos (by omega), rd_at l i hi, w64 (by omega) (by omega), show (i : Int) + 1 = ((i + 1 : Nat) : Int) by omega, w64' (by omega) (by omega), List.drop_eq_getElem_cons hi]
    simp only [dictP]
    by_cases h : l[i] ≥ (w.length : Int)
    · rw [if_pos h, if_pos h]
    · rw [if_neg h, if_pos hx, if_pos (by omega), if_pos (by omega), if_neg h]
      exact refPick_l w l hw hl h0 d k (i + 1) _ (by omega) (by simp; omega) (by omega)
theorem refPick_some (w : List ByteArray) (l : List Int) (hw : (w.length : Int) ≤ 1000000000000) (hl : (l.length : Int) ≤ 1000000000000) (h0 : ∀ x ∈ l, 0 ≤ x) (k : Nat) (hk : l.length + 1 ≤ k) : bonsairef08_Pick.f k w l = some (pickOf w l) :=
  refPick_l w l hw hl h0 l.length k 0 [] (by omega) rfl hk
theorem pick_some (w : List ByteArray) (l : List Int) (hw : (w.length : Int) ≤ 1000000000000) (hl : (l.length : Int) ≤ 1000000000000) (h0 : ∀ x ∈ l, 0 ≤ x) : dict_Pick.f w l = some (pickOf w l) := by
  unfold dict_Pick.f pickOf
  rw [if_pos ⟨by omega, by omega, h0⟩]
  cases dictP w l [] <;> rfl
end Go.Proofs.Ytbgjoiccehiglaa.LibK
end
section
namespace Go.Proofs.Ytbgjoiccehiglaa.LibL
open Go.RowKit Go.Proofs.Ytbgjoiccehiglaa.Print Go.Proofs.YtbgjoiccehiglaaW.PrintWords Go.Proofs.YtbgjoiccehiglaaW.PrintLast Go.Proofs.YtbgjoiccehiglaaW.PrintMore Go.Proofs.Ytbgjoiccehiglaa.LibU Go.Proofs.Ytbgjoiccehiglaa.LibV Go.Proofs.Ytbgjoiccehiglaa.LibC Go.Proofs.Ytbgjoiccehiglaa.LibE Go.Proofs.Ytbgjoiccehiglaa.LibW Go.Proofs.Ytbgjoiccehiglaa.LibX Go.Proofs.Ytbgjoiccehiglaa.LibY Go.Proofs.Ytbgjoiccehiglaa.LibK Go.Proofs.Ytbgjoiccehiglaa.Pure
theorem nodup_inj {l : List ByteArray} (hn : l.Nodup) {i j : Nat} {hi : i < l.length} {hj : j < l.length} (h : l[i] = l[j]) : i = j := by
  rcases Nat.lt_trichotomy i j with h1 | h1 | h1
  · exact absurd h (List.pairwise_iff_getElem.mp hn i j hi hj h1)
  · exact h1
  · exact absurd h.symm (List.pairwise_iff_getElem.mp hn j i hj hi h1)
theorem wordAt_none (s : ByteArray) : ∀ (l : List ByteArray) (i : Nat), wordAt s l i = none ↔ s ∉ l
  | [], i => by simp [wordAt]
  | x :: l, i => by
    simp only [wordAt, dl_eq]
    by_cases h : x = s
    · rw [if_pos h]; simp [h]
    · rw [if_neg h, wordAt_none s l (i + 1)]
      simp only [List.mem_cons, not_or]
      exact ⟨fun h' => ⟨fun e => h e.symm, h'⟩, fun h' => h'.2⟩
theorem wordAt_some (s : ByteArray) : ∀ (l : List ByteArray) (i k : Nat), wordAt s l i = some k → ∃ h : k - i < l.length, i ≤ k ∧ l[k - i] = s
  | [], i, k, h => by simp [wordAt] at h
  | x :: l, i, k, h => by
    simp only [wordAt, dl_eq] at h
    by_cases hx : x = s
    · rw [if_pos hx] at h
      obtain rfl := Option.some.inj h
      refine ⟨by simp, Nat.le_refl _, ?_⟩
      simp only [Nat.sub_self, List.getElem_cons_zero]
      exact hx
    · rw [if_neg hx] at h
      obtain ⟨h1, h2, h3⟩ := wordAt_some s l (i + 1) k h
      refine ⟨by simp only [List.length_cons]; omega, by omega, ?_⟩
      simp only [show k - i = (k - (i + 1)) + 1 by omega, List.getElem_cons_succ]
      exact h3
theorem wordAt_at {l : List ByteArray} (hn : l.Nodup) (j : Nat) (hj : j < l.length) : wordAt l[j] l 0 = some j := by
  cases h : wordAt l[j] l 0 with
  | none => exact absurd (List.getElem_mem hj) ((wordAt_none _ _ _).mp h)
  | some k =>
    obtain ⟨h1, _, h3⟩ := wordAt_some _ _ _ _ h
    simp only [Nat.sub_zero] at h1 h3
    congr 1
    exact nodup_inj hn h3
theorem dictG_acc : ∀ (l w : List ByteArray) (a : List Int), dictG l w a = ((dictG l w []).1, a ++ (dictG l w []).2)
  | [], w, a => by simp [dictG]
  | s :: l, w, a => by
    simp only [dictG]
    cases wordAt s w 0 with
    | none => simp only; rw [dictG_acc l _ (a ++ [_]), dictG_acc l _ ([] ++ [_])]; simp
    | some k => simp only; rw [dictG_acc l _ (a ++ [_]), dictG_acc l _ ([] ++ [_])]; simp
theorem dictG_nodup : ∀ (l w : List ByteArray) (a : List Int), w.Nodup → (dictG l w a).1.Nodup
  | [], w, a, h => h
  | s :: l, w, a, h => by
    simp only [dictG]
    cases hq : wordAt s w 0 with
    | none =>
      simp only
      refine dictG_nodup l _ _ ?_
      have := (wordAt_none _ _ _).mp hq
      rw [List.nodup_append]
      refine ⟨h, by simp, ?_⟩
      intro x hx y hy e
      simp at hy
      subst hy e
      exact this hx
    | some k => exact dictG_nodup l _ _ h
theorem dictG_len : ∀ (l w : List ByteArray) (a : List Int), (dictG l w a).2.length = a.length + l.length ∧ w.length ≤ (dictG l w a).1.length ∧ (dictG l w a).1.length ≤ w.length + l.length
  | [], w, a => by simp [dictG]
  | s :: l, w, a => by
    simp only [dictG]
    cases wordAt s w 0 with
    | none => have := dictG_len l (w ++ [s]) (a ++ [(w.length : Int)]); simp at this ⊢; omega
    | some k => have := dictG_len l w (a ++ [(k : Int)]); simp at this ⊢; omega
where dictG_at' : ∀ (l w : List ByteArray) (a : List Int), (∀ x ∈ a, 0 ≤ x ∧ x < w.length) → ∀ x ∈ (dictG l w a).2, 0 ≤ x ∧ x < (dictG l w a).1.length
  | [], w, a, h => h
  | s :: l, w, a, h => by
    simp only [dictG]
    cases hq : wordAt s w 0 with
    | none =>
      refine dictG_at' l _ _ ?_
      intro x hx
      simp only [List.mem_append, List.mem_singleton, List.length_append, List.length_singleton] at hx ⊢
      rcases hx with hx | rfl
      · have := h x hx; omega
      · omega
    | some k =>
      have hk := wordAt_lt _ _ _ _ hq
      refine dictG_at' l _ _ ?_
      intro x hx
      simp only [List.mem_append, List.mem_singleton] at hx
      rcases hx with hx | rfl
      · exact h x hx
      · omega
def pk (w : List ByteArray) (l : List Int) : List ByteArray := l.map (fun k => rdOf ByteArray.empty w k)
theorem dictP_is (w : List ByteArray) : ∀ (l : List Int) (o : List ByteArray), dictP w l o = if ∀ x ∈ l, x < (w.length : Int) then some (o ++ pk w l) else none
  | [], o => by simp [dictP, pk]
  | x :: l, o => by
    simp only [dictP]
    rw [dictP_is w l]
    by_cases h : x ≥ (w.length : Int)
    · rw [if_pos h, if_neg (fun h' => by have := h' x (by simp); omega)]
    · rw [if_neg h]
      by_cases h2 : ∀ y ∈ l, y < (w.length : Int)
      · rw [if_pos h2, if_pos (fun y hy => (List.mem_cons.mp hy).elim (fun e => by omega) (fun hy => h2 y hy))]
        simp [pk]
      · rw [if_neg h2, if_neg (fun h' => h2 (fun y hy => h' y (by simp [hy])))]
def mayD (w : List ByteArray) (l : List Int) : Bool := match dictP w l [] with | none => false | some o => decide (dictG o [] [] = (w, l))
theorem dictM_is (w : List ByteArray) (hn : w.Nodup) : ∀ (l : List Int) (m : Nat) (a : List Int), m ≤ w.length → (∀ x ∈ l, 0 ≤ x) → (∀ x ∈ l, x < (w.length : Int)) →
    (match dictM (w.length : Int) l (m : Int) with
      | none => (dictG (pk w l) (w.take m) a).2 ≠ a ++ l
      | some met => ∃ q : Nat, met = (q : Int) ∧ q ≤ w.length ∧ dictG (pk w l) (w.take m) a = (w.take q, a ++ l))
  | [], m, a, hm, _, _ => by
    simp only [dictM, pk, List.map_nil, dictG]
    exact ⟨m, rfl, hm, by simp⟩
  | x :: l, m, a, hm, h0, h1 => by
    have hx0 := h0 x (by simp)
    have hx1 := h1 x (by simp)
    obtain ⟨j, rfl⟩ := Int.eq_ofNat_of_zero_le hx0
    have hj : j < w.length := by omega
    have hrd : rdOf ByteArray.empty w (j : Int) = w[j] := rd_txt hj
    simp only [dictM, pk, List.map_cons, hrd, dictG]
    by_cases hjm : (j : Int) > m
    · rw [if_pos hjm]
      simp only
      have hnot : wordAt w[j] (w.take m) 0 = none := by
        rw [wordAt_none]
        intro hmem
        obtain ⟨q, hq, he⟩ := List.mem_iff_getElem.mp hmem
        simp only [List.length_take] at hq
        rw [List.getElem_take] at he
        have := nodup_inj hn he
        omega
      rw [hnot]
      simp only
      rw [dictG_acc]
      simp only [List.length_take]
      intro he
      rw [List.append_assoc, List.append_cancel_left_eq, List.singleton_append, List.cons.injEq] at he
      omega
    · rw [if_neg hjm, if_neg (by omega)]
      by_cases hje : j = m
      · subst hje
        have hnot : wordAt w[j] (w.take j) 0 = none := by
          rw [wordAt_none]
          intro hmem
          obtain ⟨q, hq, he⟩ := List.mem_iff_getElem.mp hmem
          simp only [List.length_take] at hq
          rw [List.getElem_take] at he
          have := nodup_inj hn he
          omega
        rw [hnot, show mx (j : Int) ((j : Int) + 1) = ((j + 1 : Nat) : Int) by unfold mx; split <;> omega]
        have ih := dictM_is w hn l (j + 1) (a ++ [(j : Int)]) (by omega) (fun y hy => h0 y (by simp [hy])) (fun y hy => h1 y (by simp [hy]))
        simp only [List.append_assoc, List.singleton_append] at ih
        rw [List.take_succ_eq_append_getElem hj] at ih
        have hl : (w.take j).length = j := by simp; omega
        simp only [hl, pk] at ih ⊢
        exact ih
      · have hlt : j < m := by omega
        have hin : wordAt w[j] (w.take m) 0 = some j := by
          have := wordAt_at (l := w.take m) (hn.sublist (List.take_sublist m w)) j (by simp; omega)
          rwa [List.getElem_take] at this
        rw [hin, show mx (m : Int) ((j : Int) + 1) = (m : Int) by unfold mx; split <;> omega]
        have ih := dictM_is w hn l m (a ++ [(j : Int)]) hm (fun y hy => h0 y (by simp [hy])) (fun y hy => h1 y (by simp [hy]))
        simp only [List.append_assoc, List.singleton_append] at ih
        simp only [pk] at ih ⊢
        exact ih
theorem dictM_big (n : Int) : ∀ (l : List Int) (m : Int), (¬ ∀ x ∈ l, x < n) → dictM n l m = none
  | [], m, h => absurd (by simp) h
  | x :: l, m, h => by
    simp only [dictM]
    by_cases h1 : x > m
    · rw [if_pos h1]
    · rw [if_neg h1]
      by_cases h2 : x ≥ n
      · rw [if_pos h2]
      · rw [if_neg h2]
        refine dictM_big n l _ (fun h' => h ?_)
        intro y hy
        rcases List.mem_cons.mp hy with rfl | hy
        · omega
        · exact h' y hy
theorem uniq_nodup : ∀ (l w : List ByteArray), (w ++ l).Nodup → uniq l w = w ++ l
  | [], w, h => by simp [uniq]
  | s :: l, w, h => by
    have hs : wordAt s w 0 = none := by
      rw [wordAt_none]
      intro hm
      rw [List.nodup_append] at h
      exact h.2.2 s hm s (by simp) rfl
    simp only [uniq, hs]
    have := uniq_nodup l (w ++ [s]) (by simpa using h)
    simpa using this
theorem uniq_conv : ∀ (l w : List ByteArray), w.Nodup → (uniq l w).length = w.length + l.length → (w ++ l).Nodup
  | [], w, h, _ => by simpa using h
  | s :: l, w, h, he => by
    simp only [uniq] at he
    cases hs : wordAt s w 0 with
    | some k =>
      rw [hs] at he
      have := uniq_len l w
      simp only [List.length_cons] at he
      omega
    | none =>
      rw [hs] at he
      have hn := (wordAt_none _ _ _).mp hs
      have := uniq_conv l (w ++ [s]) (by
        rw [List.nodup_append]
        refine ⟨h, by simp, ?_⟩
        intro x hx y hy e
        simp at hy
        subst hy e
        exact hn hx) (by simp at he ⊢; omega)
      simpa using this
theorem may_some (w : List ByteArray) (l : List Int) (hw : (w.length : Int) ≤ 1000000000000) (hs : Short w) (hl : (l.length : Int) ≤ 1000000000000) (h0 : ∀ x ∈ l, 0 ≤ x) : dict_May.f w l = some (mayD w l) := by
  unfold dict_May.f mayD
  rw [if_pos ⟨by omega, hs, by omega, h0⟩, dictP_is]
  by_cases hall : ∀ x ∈ l, x < (w.length : Int)
  · rw [if_pos hall]
    simp only [List.nil_append]
    by_cases hn : w.Nodup
    · have hm := dictM_is w hn l 0 [] (by omega) h0 hall
      simp only [Int.natCast_zero, List.take_zero, List.nil_append] at hm
      cases hd : dictM (w.length : Int) l 0 with
      | none =>
        rw [hd] at hm
        simp only at hm ⊢
        congr 1
        symm
        rw [decide_eq_false_iff_not]
        intro e
        exact hm (by rw [e])
      | some met =>
        rw [hd] at hm
        simp only at hm ⊢
        obtain ⟨q, rfl, hq, he⟩ := hm
        have hu : uniq w [] = w := by simpa using uniq_nodup w [] (by simpa using hn)
        by_cases hqe : q = w.length
        · rw [if_pos (by omega)]
          congr 1
          rw [decide_eq_decide, he, hu, hqe]
          simp
        · rw [if_neg (by omega)]
          congr 1
          symm
          rw [decide_eq_false_iff_not, he]
          intro e
          have := congrArg (fun p => p.1.length) e
          simp at this
          omega
    · have hF : decide (dictG (pk w l) [] [] = (w, l)) = false := by
        rw [decide_eq_false_iff_not]
        intro e
        have := dictG_nodup (pk w l) [] [] (by simp)
        rw [e] at this
        exact hn this
      rw [hF]
      cases dictM (w.length : Int) l 0 with
      | none => rfl
      | some met =>
        simp only
        split
        · congr 1
          rw [decide_eq_false_iff_not]
          intro e
          have := uniq_conv w [] (by simp) (by simpa using e)
          exact hn (by simpa using this)
        · rfl
  · rw [if_neg hall, dictM_big _ _ _ hall]
theorem refMay_some (w : List ByteArray) (l : List Int) (hw : (w.length : Int) ≤ 1000000000000) (hl : (l.length : Int) ≤ 1000000000000) (h0 : ∀ x ∈ l, 0 ≤ x) (k : Nat) (hk : 2 * l.length + 2 ≤ k) : bonsairef08_May.f k w l = some (mayD w l) := by
  unfold bonsairef08_May.f mayD
  rw [refPick_some w l hw hl h0 k (by omega)]
  simp only [Option.bind_some, pickOf]
  rw [dictP_is]
  by_cases hall : ∀ x ∈ l, x < (w.length : Int)
  · rw [if_pos hall]
    simp only [List.nil_append, if_true]
    have hpl : (pk w l).length = l.length := by simp [pk]
    rw [refWords_some _ (by omega) k (by omega)]
    simp only [Option.bind_some]
    have hlen := dictG_len (pk w l) [] []
    simp only [List.length_nil] at hlen
    rw [same4 _ _ (by omega) k (by omega)]
    simp only [Option.bind_some, decide_eq_true_eq]
    by_cases h1 : (dictG (pk w l) [] []).1 = w
    · rw [if_pos h1, same6 _ _ (by omega) k (by omega)]
      simp only [Option.bind_some]
      congr 1
      rw [decide_eq_decide]
      exact ⟨fun h2 => Prod.ext h1 h2, fun h2 => by rw [h2]⟩
    · rw [if_neg h1]
      congr 1
      symm
      rw [decide_eq_false_iff_not]
      intro e
      exact h1 (by rw [e])
  · rw [if_neg hall]
    rfl
end Go.Proofs.Ytbgjoiccehiglaa.LibL
end
section
namespace Go.Proofs.Ytbgjoiccehiglaa.LibM
open Go.RowKit Go.Proofs.Ytbgjoiccehiglaa.Print Go.Proofs.YtbgjoiccehiglaaW.PrintWords Go.Proofs.YtbgjoiccehiglaaW.PrintLast Go.Proofs.YtbgjoiccehiglaaW.PrintMore Go.Proofs.Ytbgjoiccehiglaa.LibD Go.Proofs.Ytbgjoiccehiglaa.LibU Go.Proofs.Ytbgjoiccehiglaa.LibV Go.Proofs.Ytbgjoiccehiglaa.LibC Go.Proofs.Ytbgjoiccehiglaa.LibE Go.Proofs.Ytbgjoiccehiglaa.LibW Go.Proofs.Ytbgjoiccehiglaa.LibX Go.Proofs.Ytbgjoiccehiglaa.LibY Go.Proofs.Ytbgjoiccehiglaa.LibK Go.Proofs.Ytbgjoiccehiglaa.LibL
noncomputable def tk (s : ByteArray) (a most : Int) : ByteArray × Int × Int := (word_Take.f (s.size + 60) s a most).getD (noText, 0, 1)
theorem tk_some (s : ByteArray) (hs : s.size ≤ 140737488351232) (a most : Int) (hm0 : -9223372036854775808 ≤ most) (hm1 : most ≤ 9223372036854775807) :
    (∀ k, s.size + 60 ≤ k → word_Take.f k s a most = some (tk s a most) ∧ bonsairef04_Take.f k s a most = some (tk s a most)) ∧
    ((tk s a most).2.2 ≠ 0 → tk s a most = (noText, 0, (tk s a most).2.2)) ∧
    ((tk s a most).2.2 = 0 → 0 ≤ a ∧ 0 ≤ (tk s a most).2.1 ∧ (tk s a most).2.1 ≤ s.size ∧ a < (tk s a most).2.1 ∧ (tk s a most).1.size ≤ s.size ∧ ((tk s a most).1.size : Int) ≤ most ∧ Go.Proofs.Ytbgjoiccehiglaa.LibA.Vld (tk s a most).1) := by
  obtain ⟨t, b, e, h1, h2, h3⟩ := take_both s hs a most hm0 hm1
  have he : tk s a most = (t, b, e) := by
    unfold tk
    rw [(h1 _ (Nat.le_refl _)).1]
    rfl
  rw [he]
  refine ⟨h1, fun h => ?_, fun h => ?_⟩
  · obtain ⟨r1, r2⟩ := h2 h
    rw [r1, r2]
  · obtain ⟨ha, v, n, hv, hn, hnm, ht, hab, hb, _⟩ := h3 h
    exact ⟨ha, by simp only; omega, hb, by simp only; omega, by simp only; omega, by simp only; omega, hv⟩
noncomputable def endD (s : ByteArray) (n a : Int) (ws : List ByteArray) : List ByteArray × Int :=
  if (decTo (s.extract a.toNat s.size) n).2 = 0 then (if mayD ws (decTo (s.extract a.toNat s.size) n).1 = true then ((pickOf ws (decTo (s.extract a.toNat s.size) n).1).1, 0) else ([], 5)) else ([], (decTo (s.extract a.toNat s.size) n).2)
noncomputable def lpD (s : ByteArray) (n most : Int) : Nat → Int → List ByteArray → List ByteArray × Int
  | 0, a, ws => endD s n a ws
  | c + 1, a, ws => if (tk s a most).2.2 = 0 then lpD s n most c (tk s a most).2.1 (ws ++ [(tk s a most).1]) else ([], (tk s a most).2.2)
theorem lp_both (s : ByteArray) (hs : s.size ≤ 140737488351232) (n most : Int) (hn : n ≤ 4096) (hm0 : -9223372036854775808 ≤ most) (hm1 : most ≤ 9223372036854775807) (c : Nat) (hc : c ≤ 4096) (K : Nat) (hK : 1000002 ≤ K) :
    ∀ (d k i : Nat) (a : Int) (ws : List ByteArray), i + d = c → ws.length = i → Short ws → 0 ≤ a → a ≤ s.size → (s.size + 1) * K + 5000 * K + 5000 + 10000 + s.size + 100 + d ≤ k →
      dict_Decode.l0 k s n most ws a (c : Int) (i : Int) = some (lpD s n most d a ws) ∧ bonsairef08_Decode.l0 k s n most (c : Int) ws a (i : Int) = some (lpD s n most d a ws)
  | 0, k, i, a, ws, hd, hw, hsh, ha0, ha1, hk => by
    obtain ⟨k, rfl⟩ : ∃ k', k = k' + 1 := ⟨k - 1, by omega⟩
    have hsz : (s.extract a.toNat s.size).size ≤ s.size := by rw [ByteArray.size_extract]; omega
    have hmul : ((s.extract a.toNat s.size).size + 1) * K ≤ (s.size + 1) * K := Nat.mul_le_mul_right _ (by omega)
    have hd1 := dec_some (s.extract a.toNat s.size) (by omega) n K hK k (by omega)
    have hd2 := refDec_some (s.extract a.toNat s.size) (by omega) n K hK k (by omega)
    have hwas := dec_was (s.extract a.toNat s.size) (by omega) n
    unfold dict_Decode.l0 bonsairef08_Decode.l0 lpD endD
    rw [if_neg (show ¬ (i : Int) < (c : Int) by omega), if_pos ha0, if_pos ha1, if_neg (show ¬ (i : Int) < (c : Int) by omega), hd1, hd2]
    rw [if_pos ha0, if_pos ha1]
    simp only [Option.bind_some]
    by_cases he : (decTo (s.extract a.toNat s.size) n).2 = 0
    · obtain ⟨hl, _, hx⟩ := hwas.1 he
      simp only [if_pos he]
      rw [may_some ws _ (by omega) hsh (by omega) (fun x h => (hx x h).1), refMay_some ws _ (by omega) (by omega) (fun x h => (hx x h).1) k (by omega)]
      simp only [Option.bind_some]
      rw [pick_some ws _ (by omega) (by omega) (fun x h => (hx x h).1), refPick_some ws _ (by omega) (by omega) (fun x h => (hx x h).1) k (by omega)]
      simp only [Option.bind_some]
      split <;> exact ⟨rfl, rfl⟩
    · simp only [if_neg he, and_self]
  | d + 1, k, i, a, ws, hd, hw, hsh, ha0, ha1, hk => by
    obtain ⟨k, rfl⟩ : ∃ k', k = k' + 1 := ⟨k - 1, by omega⟩
    obtain ⟨h1, _, h3⟩ := tk_some s hs a most hm0 hm1
    obtain ⟨h11, h12⟩ := h1 k (by omega)
    unfold dict_Decode.l0 bonsairef08_Decode.l0 lpD
    have hlt : (i : Int) < (c : Int) := by omega
    have hlen : ws.length < 8796093022208 := by omega
    simp only [if_pos hlt, h11, h12, Option.bind_some]
    by_cases he : (tk s a most).2.2 = 0
    · obtain ⟨_, r1, r2, _, r3, _⟩ := h3 he
      simp only [if_pos he, if_pos hlen]
      rw [w64' (by omega) (by omega), show (i : Int) + 1 = ((i + 1 : Nat) : Int) by omega]
      exact lp_both s hs n most hn hm0 hm1 c hc K hK d k (i + 1) _ _ (by omega) (by simp; omega) (by
        intro x hx
        rcases List.mem_append.mp hx with hx | hx
        · exact hsh x hx
        · simp at hx; rw [hx]; omega) r1 r2 (by omega)
    · simp only [if_neg he, and_self]
noncomputable def decD (s : ByteArray) (n most : Int) : List ByteArray × Int :=
  if n < 0 then ([], 1) else if n > 4096 then ([], 10) else if (numT s).2.2 = 0 then (if (numT s).1 > n then ([], 10) else lpD s n most (numT s).1.toNat ((s.size : Int) - (numT s).2.1.size) []) else ([], (numT s).2.2)
theorem decD_some (s : ByteArray) (hs : s.size ≤ 140737488351232) (n most : Int) (hm0 : -9223372036854775808 ≤ most) (hm1 : most ≤ 9223372036854775807) (K : Nat) (hK : 1000002 ≤ K) (k : Nat) (hk : (s.size + 1) * K + 5000 * K + 5000 + 20000 + s.size + 100 ≤ k) :
    dict_Decode.f k s n most = some (decD s n most) ∧ bonsairef08_Decode.f k s n most = some (decD s n most) := by
  unfold dict_Decode.f bonsairef08_Decode.f decD
  by_cases h0 : n < 0
  · rw [if_pos h0, if_pos h0, if_pos h0]
    exact ⟨rfl, rfl⟩
  rw [if_neg h0, if_neg h0, if_neg h0]
  by_cases h1 : n > 4096
  · rw [if_pos h1, if_pos h1, if_pos h1]
    exact ⟨rfl, rfl⟩
  rw [if_neg h1, if_neg h1, if_neg h1]
  have hS := Sim.begin s hs 0 (by omega) (by omega)
  have hsz : s.extract (0 : Int).toNat s.size = s := LibF.take_all s
  rw [hsz] at hS
  obtain ⟨v, r', e', a', hp, hr, hS', hv0, hv1, _, he2, he3, he4⟩ := hS.num 0
  have hn := num_numT s (by omega)
  have heq : numT s = (v, r', e') := Option.some.inj (hn.symm.trans hp)
  rw [heq, hr k (by omega)]
  simp only [pack_New.f, Option.bind_some]
  rw [hp]
  simp only [Option.bind_some, pack_Reader_Err.f]
  by_cases he : e' = 0
  · rw [if_pos he, if_pos he, if_pos he, w64' (by omega) (by omega)]
    by_cases hvn : v > n
    · rw [if_pos hvn, if_pos hvn, if_pos hvn]
      exact ⟨rfl, rfl⟩
    · rw [if_neg hvn, if_neg hvn, if_neg hvn]
      simp only [pack_Reader_Left.f, Option.bind_some]
      have hsz' := hS'.size
      have hlo := hS'.lo
      rw [LibV.w64 (by omega) (by omega)]
      have := lp_both s hs n most (by omega) hm0 hm1 v.toNat (by omega) K hK v.toNat k 0 ((s.size : Int) - r'.size) [] (by omega) rfl (fun _ h => by simp at h) (by omega) (by omega) (by omega)
      rw [show ((v.toNat : Nat) : Int) = v by omega] at this
      rw [show a' = (s.size : Int) - r'.size by omega]
      exact this
  · rw [if_neg he, if_neg he, if_neg he]
    exact ⟨rfl, rfl⟩
end Go.Proofs.Ytbgjoiccehiglaa.LibM
end
section
namespace Go.Proofs.Ytbgjoiccehiglaa.LibN
open Go.RowKit Go.Proofs.Ytbgjoiccehiglaa.Print Go.Proofs.YtbgjoiccehiglaaW.PrintWords Go.Proofs.YtbgjoiccehiglaaW.PrintLast Go.Proofs.YtbgjoiccehiglaaW.PrintMore Go.Proofs.Ytbgjoiccehiglaa.LibB
set_option maxRecDepth 100000 in
theorem live08 : bonsailaw08_live.f 60 = some true := by decide +kernel
theorem live08_at {k : Nat} (hk : 60 ≤ k) : bonsailaw08_live.f k = some true := at_rounds (g := bonsailaw08_live.f) (fun k => bonsailaw08_live.mono k) hk live08
end Go.Proofs.Ytbgjoiccehiglaa.LibN
end
section
namespace Go.Proofs.Ytbgjoiccehiglaa.Pure
open Go.RowKit Go.Proofs.Ytbgjoiccehiglaa.Print Go.Proofs.YtbgjoiccehiglaaW.PrintWords Go.Proofs.YtbgjoiccehiglaaW.PrintLast Go.Proofs.YtbgjoiccehiglaaW.PrintMore Go.Proofs.Ytbgjoiccehiglaa.LibK Go.Proofs.Ytbgjoiccehiglaa.LibL Go.Proofs.Ytbgjoiccehiglaa.LibM Go.Proofs.Ytbgjoiccehiglaa.LibN Go.Proofs.Ytbgjoiccehiglaa.LibX
theorem pick_len (w : List ByteArray) (l : List Int) : (pickOf w l).1.length ≤ l.length := by
  unfold pickOf
  rw [dictP_is]
  split
  · exact Nat.zero_le _
  · rename_i h
    split at h
    · obtain rfl := Option.some.inj h
      simp [pk]
    · exact absurd h (by simp)
theorem lpD_len (s : ByteArray) (hs : s.size ≤ 140737488351232) (n most : Int) (hn : n ≤ 4096) : ∀ (c : Nat) (a : Int) (ws : List ByteArray), (lpD s n most c a ws).1.length ≤ 4096
  | 0, a, ws => by
    unfold lpD endD
    have hsz : (s.extract a.toNat s.size).size ≤ s.size := by rw [ByteArray.size_extract]; omega
    have hw := dec_was (s.extract a.toNat s.size) (by omega) n
    by_cases he : (decTo (s.extract a.toNat s.size) n).2 = 0
    · have := (hw.1 he).1
      have hp := pick_len ws (decTo (s.extract a.toNat s.size) n).1
      rw [if_pos he]
      split
      · simp only; omega
      · simp
    · rw [if_neg he]
      simp
  | c + 1, a, ws => by
    unfold lpD
    split
    · exact lpD_len s hs n most hn c _ _
    · simp
theorem decD_len (s : ByteArray) (hs : s.size ≤ 140737488351232) (n most : Int) : (decD s n most).1.length ≤ 4096 := by
  unfold decD
  repeat' split
  all_goals first | exact lpD_len s hs n most (by omega) _ _ _ | simp
theorem DictReads : bonsailaw08_DictReads.Pure := by
  intro s n most hs hn hm
  obtain ⟨K, hK⟩ : ∃ K : Nat, 1000002 ≤ K := ⟨1000002, Nat.le_refl _⟩
  have hmr : -9223372036854775808 ≤ most ∧ most ≤ 9223372036854775807 := by
    simp [Lit.wf, IntKind.min, IntKind.max, IntKind.bits, IntKind.signed] at hm
    omega
  refine ⟨(s.size + 1) * K + 5000 * K + 5000 + 20000 + s.size + 100, ?_⟩
  unfold bonsailaw08_DictReads.f
  rw [live08_at (by omega)]
  obtain ⟨h1, h2⟩ := decD_some s hs n most hmr.1 hmr.2 K hK _ (Nat.le_refl _)
  have hl := decD_len s hs n most
  by_cases hb : (s.size : Int) > 500
  · rw [if_pos hb]; rfl
  · rw [if_neg hb, h1, h2]
    simp only [Option.bind_some]
    rw [same4 _ _ (by omega) _ (by omega)]
    simp
end Go.Proofs.Ytbgjoiccehiglaa.Pure
end
