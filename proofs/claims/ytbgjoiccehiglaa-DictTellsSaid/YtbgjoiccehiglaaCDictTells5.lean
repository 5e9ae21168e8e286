/- Part 5 of what DictTells stands on: merged by a program of this session out of its texts. -/
import Derived.Test.YtbgjoiccehiglaaCDictTells4
section
namespace Go.Proofs.Ytbgjoiccehiglaa.Print
open Go.RowKit Go.Proofs.YtbgjoiccehiglaaW.PrintWords Go.Proofs.YtbgjoiccehiglaaW.PrintLast Go.Proofs.YtbgjoiccehiglaaW.PrintMore
attribute [local go_sem] max2_int min2_int max_two min_two max_three min_three max_four min_four
set_option linter.unusedVariables false
set_option linter.unusedSimpArgs false
def bonsairef08_Words.l0 : Nat → List ByteArray → List ByteArray → List Int → Int → Option (List ByteArray × List Int)
  | 0, _, _, _, _ => none
  | k + 1, x0, x4, x5, x6 => if x6 < (x0.length : Int) then (if 0 ≤ x6 then ((bonsairef08_place.f k x4 (rdOf ByteArray.empty x0 x6)).bind fun t872 => (if t872 = (x4.length : Int) then (if x4.length < 8796093022208 then (if x5.length < 17592186044416 then (bonsairef08_Words.l0 k x0 (x4 ++ [rdOf ByteArray.empty x0 x6]) (x5 ++ [IntKind.u64.wrap (t872)]) (wrap64 (x6 + 1))) else (none)) else (none)) else (if x5.length < 17592186044416 then (bonsairef08_Words.l0 k x0 x4 (x5 ++ [IntKind.u64.wrap (t872)]) (wrap64 (x6 + 1))) else (none)))) else (none)) else (some (x4, x5))
def bonsairef08_Words.f (k : Nat) (l0 : List ByteArray) : Option (List ByteArray × List Int) := bonsairef08_Words.l0 k l0 ([] : List ByteArray) ([] : List Int) 0
set_option maxHeartbeats 8000000 in
set_option maxRecDepth 100000 in
theorem bonsairef08_Words.calls (k : Nat) (A0 : Option Addr) (c0 : Nat) (l0 : List ByteArray) (r1 : List ByteArray) (r2 : List Int) (w : World) (hr0 : Kd.C Kd.string w A0 l0.length l0) (hc0 : l0.length ≤ c0) (h : bonsairef08_Words.f k l0 = some (r1, r2)) :
    Calls Try.prog 66 #[.slice A0 l0.length c0] w fun e w' => ∃ v0_ v1_ : Value, e = .returned (.tuple #[v0_, v1_]) ∧ Kd.R Kd.string 9 w' w.heap.size (fun _ => True) v0_ r1 ∧ Kd.R (Kd.int .u64) 51 w' w.heap.size (fun _ => True) v1_ r2 ∧ Below w.heap.size w w' := by
  have HR0 := Aside0.mk hr0
  have HC0 := Aside0.mk hc0
  clear hr0 hc0
  have HB := Aside0.mk (Below.refl w.heap.size w)
  have H : (bonsairef08_Words.l0 k l0 ([] : List ByteArray) ([] : List Int) 0) = some (r1, r2) := h
  clear h
  have H' := Aside0.mk H
  clear H
  go_enter Try.func66, Try.ntmps66
  go_wp2
  go_loopg [4, 5, 6] k (fun kq v4 v5 v6 w' => ∃ (x4_1 : List ByteArray) (x5_1 : List Int) (x6_1 : Int), v6 = .int .i64 x6_1 ∧ Aside0 (bonsairef08_Words.l0 kq l0 x4_1 x5_1 x6_1 = some (r1, r2)) ∧ Aside0 (kq ≤ k) ∧ Aside0 (Kd.R Kd.string 9 w' w.heap.size (fun _ => True) v4 x4_1) ∧ Aside0 (Kd.R (Kd.int .u64) 51 w' w.heap.size (fun _ => True) v5 x5_1) ∧ Aside0 (Below w.heap.size w w'))
  case atStart => exact ⟨(([] : List ByteArray)), (([] : List Int)), (0), (by first | rfl | (simp; done) | (simp [*]; done)), H', ⟨Nat.le_refl _⟩, ⟨by first | exact Kd.R_nil _ _ _ _ _ | exact Kd.N_nil _ _ _ _ _ | exact Kd.V_nil _ _ _ _ _ | exact Kd.Q_nil _ _ _ _ _ | exact Kd.S_nil _ _ _ _ _⟩, ⟨by first | exact Kd.R_nil _ _ _ _ _ | exact Kd.N_nil _ _ _ _ _ | exact Kd.V_nil _ _ _ _ _ | exact Kd.Q_nil _ _ _ _ _ | exact Kd.S_nil _ _ _ _ _⟩, ⟨by repeat (first | (with_reducible first | exact HB.out | apply below_alloc | apply pw_below_drewN | apply below_drew1) | exact HB.out)⟩⟩
  case round =>
    clear H'
    obtain ⟨x4_1, x5_1, x6_1, rfl, HA, HK1, HO_4, HO_5, HB⟩ := hrel
    cases gk with
    | zero => exact absurd HA.out (by simp [bonsairef08_Words.l0])
    | succ k1 =>
      have H := HA.out
      clear HA
      simp only [bonsairef08_Words.l0] at H
      by_cases c2 : x6_1 < (l0.length : Int)
      · rw [if_pos c2] at H
        have c2b0 : decide (x6_1 < (l0.length : Int)) = true := decide_eq_true c2
        clear c2
        by_cases c3 : 0 ≤ x6_1
        · rw [if_pos c3] at H
          have c3b0 : decide (0 ≤ x6_1) = true := decide_eq_true c3
          clear c3
          replace H := Option.bind_eq_some_iff.mp H
          obtain ⟨t872, A40, H⟩ := H
          replace H : (if t872 = (x4_1.length : Int) then (if x4_1.length < 8796093022208 then (if x5_1.length < 17592186044416 then (bonsairef08_Words.l0 k1 l0 (x4_1 ++ [rdOf ByteArray.empty l0 x6_1]) (x5_1 ++ [IntKind.u64.wrap (t872)]) (wrap64 (x6_1 + 1))) else (none)) else (none)) else (if x5_1.length < 17592186044416 then (bonsairef08_Words.l0 k1 l0 x4_1 (x5_1 ++ [IntKind.u64.wrap (t872)]) (wrap64 (x6_1 + 1))) else (none))) = some (r1, r2) := H
          have A4 := Aside0.mk A40
          clear A40
          by_cases c5 : t872 = (x4_1.length : Int)
          · rw [if_pos c5] at H
            have c5b0 : (t872 == (x4_1.length : Int)) = true := beq_iff_eq.mpr c5
            have c5b1 : (t872 != (x4_1.length : Int)) = false := bne_eq_false_iff_eq.mpr c5
            clear c5
            by_cases c6 : x4_1.length < 8796093022208
            · rw [if_pos c6] at H
              have LMc6 := Aside0.mk c6
              clear c6
              obtain ⟨y874, hy874⟩ : ∃ y_ : List ByteArray, y_ = (x4_1 ++ [rdOf ByteArray.empty l0 x6_1]) := ⟨_, rfl⟩
              replace H : (if x5_1.length < 17592186044416 then (bonsairef08_Words.l0 k1 l0 y874 (x5_1 ++ [IntKind.u64.wrap (t872)]) (wrap64 (x6_1 + 1))) else (none)) = some (r1, r2) := by first | (rw [hy874]; with_reducible exact H) | (have H2_ := (Option.bind_some _ _).symm.trans H; rw [hy874]; with_reducible exact H2_) | (have H2_ := (Option.bind_some _ _).symm.trans H; with_reducible exact H2_) | with_reducible exact H | (rw [hy874]; exact H) | exact H
              have Ny874 := Aside0.mk hy874
              clear hy874
              by_cases c7 : x5_1.length < 17592186044416
              · rw [if_pos c7] at H
                have LMc7 := Aside0.mk c7
                clear c7
                obtain ⟨y877, hy877⟩ : ∃ y_ : List Int, y_ = (x5_1 ++ [IntKind.u64.wrap (t872)]) := ⟨_, rfl⟩
                replace H : (bonsairef08_Words.l0 k1 l0 y874 y877 (wrap64 (x6_1 + 1))) = some (r1, r2) := by first | (rw [hy877]; with_reducible exact H) | (have H2_ := (Option.bind_some _ _).symm.trans H; rw [hy877]; with_reducible exact H2_) | (have H2_ := (Option.bind_some _ _).symm.trans H; with_reducible exact H2_) | with_reducible exact H | (rw [hy877]; exact H) | exact H
                have Ny877 := Aside0.mk hy877
                clear hy877
                have H' := Aside0.mk H
                clear H
                have p871 : 0 ≤ (x6_1 : Int) := of_decide_eq_true (by first | (with_reducible assumption) | assumption)
                have q871 : x6_1 < (l0.length : Int) := of_decide_eq_true (by first | (with_reducible assumption) | assumption)
                obtain ⟨ad871, e871, hx871_0⟩ := Kd.at_string HR0.out x6_1 p871 q871
                cases e871
                replace hx871_0 := (HB.out.cell (World.block_lt_of_cell? w _ hx871_0)).trans hx871_0
                replace p871 := eq_true p871
                replace q871 := eq_true q871
                obtain ⟨Ao8, co8, eo8⟩ := Kd.R_slice HO_4.out
                subst eo8
                go_wp2_with (first | ((with_reducible refine gate_callee (f := 95) rfl ?_); refine goesL_ (some 19) rfl rfl Try.func95 (by kernel_rfl) rfl #[.slice Ao8 x4_1.length co8, .string (rdOf ByteArray.empty l0 x6_1)] rfl (by (try simp only [List.map_toArray, List.map_cons, List.map_nil]); first | done | rfl | (simp only [List.length_drop, List.length_take]; rfl)) ?_; (with_reducible refine (bonsairef08_place.calls k1 _ _ x4_1 (rdOf ByteArray.empty l0 x6_1) t872 _ ?side1 ?side2 A4.out).mono ?_); (case side1 => repeat (first | exact (Kd.R_reads' HO_4.out).2.2 | (with_reducible refine Kd.C_alloc ?_ _) | (with_reducible refine Kd.C_drewN ?_ _) | (with_reducible refine Kd.C_drew ?_))); (case side2 => exact (Kd.R_reads' HO_4.out).2.1); rintro e w' ⟨rfl, ⟨nd, rfl⟩⟩; refine ⟨_, rfl, ?_⟩; have p873 : 0 ≤ (x6_1 : Int) := of_decide_eq_true (by first | (with_reducible assumption) | assumption); have q873 : x6_1 < (l0.length : Int) := of_decide_eq_true (by first | (with_reducible assumption) | assumption); obtain ⟨ad873, e873, hx873_0⟩ := Kd.at_string HR0.out x6_1 p873 q873; obtain rfl : ad871 = ad873 := (by injection e873); replace hx873_0 := (HB.out.cell (World.block_lt_of_cell? w _ hx873_0)).trans hx873_0; replace p873 := eq_true p873; replace q873 := eq_true q873) | ((with_reducible refine gate_builtin (b := .append) (xs := #[.tmp 24, .tmp 29]) rfl ?_); at_builtin; refine Kd.R_append Kd.string (w0 := w) w.heap.size rfl (.tmp 24) (.tmp 29) 35 9 (.string ⟨#[]⟩) 16 rfl Try.underlying35 info9 rfl (by decide) (by omega) (.slice Ao8 x4_1.length co8) x4_1 (rdOf ByteArray.empty l0 x6_1) [.string (rdOf ByteArray.empty l0 x6_1)] (fun _ => True) (fun _ => False) rfl rfl ?aP (fun _ hk => hk.elim) ?aF ?aO ?aB ?aS ?aL ?_; (case aP => exact rfl); (case aB => exact (by repeat (first | (with_reducible first | exact HB.out | apply below_alloc | apply pw_below_drewN | apply below_drew1) | exact HB.out))); (case aF => exact (fun _ _ => trivial)); (case aO => exact (by (with_reducible repeat (first | apply Kd.R_alloc | apply Kd.R_drewN | apply Kd.R_drew)); exact HO_4.out)); (case aS => exact (below_size (by repeat (first | (with_reducible first | exact HB.out | apply below_alloc | apply pw_below_drewN | apply below_drew1) | exact HB.out)))); (case aL => have := LMc6.out; omega); intro v875 w9 ho hb hg hat; rw [← Ny874.out] at ho; have n0_ := Aside0.mk (Kd.R_over' (by (with_reducible repeat (first | apply Kd.R_alloc | apply Kd.R_drewN | apply Kd.R_drew)); exact HO_5.out) (Kd.R_typed (by (with_reducible repeat (first | apply Kd.R_alloc | apply Kd.R_drewN | apply Kd.R_drew)); exact HO_4.out)) (by decide) hg); have n1_ := Aside0.mk (hb); have n2_ := Aside0.mk (ho); clear HO_5; clear HB; clear HO_4; have HO_5 := n0_; have HB := n1_; have HO876 := n2_; clear n0_ n1_ n2_; clear ho hb hg hat) | ((with_reducible refine gate_builtin (b := .append) (xs := #[.tmp 31, .tmp 34]) rfl ?_); at_builtin; refine Kd.R_append (Kd.int .u64) (w0 := w) w.heap.size rfl (.tmp 31) (.tmp 34) 38 51 (.int .u64 0) 8 rfl Try.underlying38 info51 rfl (by decide) (by omega) u5 x5_1 (IntKind.u64.wrap (t872)) [.int .u64 (IntKind.u64.wrap (t872))] (fun _ => True) (fun _ => False) rfl rfl ?aP (fun _ hk => hk.elim) ?aF ?aO ?aB ?aS ?aL ?_; (case aP => exact rfl); (case aB => exact (by repeat (first | (with_reducible first | exact HB.out | apply below_alloc | apply pw_below_drewN | apply below_drew1) | exact HB.out))); (case aF => exact (fun _ _ => trivial)); (case aO => exact (by (with_reducible repeat (first | apply Kd.R_alloc | apply Kd.R_drewN | apply Kd.R_drew)); exact HO_5.out)); (case aS => exact (below_size (by repeat (first | (with_reducible first | exact HB.out | apply below_alloc | apply pw_below_drewN | apply below_drew1) | exact HB.out)))); (case aL => have := LMc7.out; omega); intro v878 w10 ho hb hg hat; rw [← Ny877.out] at ho; have n0_ := Aside0.mk (Kd.R_over' (by (with_reducible repeat (first | apply Kd.R_alloc | apply Kd.R_drewN | apply Kd.R_drew)); exact HO876.out) (Kd.R_typed (by (with_reducible repeat (first | apply Kd.R_alloc | apply Kd.R_drewN | apply Kd.R_drew)); exact HO_5.out)) (by decide) hg); have n1_ := Aside0.mk (hb); have n2_ := Aside0.mk (ho); clear HO876; clear HB; clear HO_5; have HO876 := n0_; have HB := n1_; have HO879 := n2_; clear n0_ n1_ n2_; clear ho hb hg hat))
                go_roundg k1
                case measure => have := HK1.out; omega
                case rel => exact ⟨(y874), (y877), (wrap64 (x6_1 + 1)), (by first | rfl | (simp; done) | (simp [*]; done)), H', ⟨by have := HK1.out; omega⟩, ⟨by (with_reducible repeat (first | apply Kd.R_alloc | apply Kd.R_drewN | apply Kd.R_drew)); exact HO876.out⟩, ⟨by (with_reducible repeat (first | apply Kd.R_alloc | apply Kd.R_drewN | apply Kd.R_drew)); exact HO879.out⟩, ⟨by repeat (first | (with_reducible first | exact HB.out | apply below_alloc | apply pw_below_drewN | apply below_drew1) | exact HB.out)⟩⟩
              · rw [if_neg c7] at H
                exact absurd H (by simp)
            · rw [if_neg c6] at H
              exact absurd H (by simp)
          · rw [if_neg c5] at H
            have c5b0 : (t872 == (x4_1.length : Int)) = false := beq_eq_false_iff_ne.mpr c5
            have c5b1 : (t872 != (x4_1.length : Int)) = true := bne_iff_ne.mpr c5
            by_cases c11 : x5_1.length < 17592186044416
            · rw [if_pos c11] at H
              have LMc11 := Aside0.mk c11
              clear c11
              obtain ⟨y880, hy880⟩ : ∃ y_ : List Int, y_ = (x5_1 ++ [IntKind.u64.wrap (t872)]) := ⟨_, rfl⟩
              replace H : (bonsairef08_Words.l0 k1 l0 x4_1 y880 (wrap64 (x6_1 + 1))) = some (r1, r2) := by first | (rw [hy880]; with_reducible exact H) | (have H2_ := (Option.bind_some _ _).symm.trans H; rw [hy880]; with_reducible exact H2_) | (have H2_ := (Option.bind_some _ _).symm.trans H; with_reducible exact H2_) | with_reducible exact H | (rw [hy880]; exact H) | exact H
              have Ny880 := Aside0.mk hy880
              clear hy880
              have H' := Aside0.mk H
              clear H
              have p871 : 0 ≤ (x6_1 : Int) := of_decide_eq_true (by first | (with_reducible assumption) | assumption)
              have q871 : x6_1 < (l0.length : Int) := of_decide_eq_true (by first | (with_reducible assumption) | assumption)
              obtain ⟨ad871, e871, hx871_0⟩ := Kd.at_string HR0.out x6_1 p871 q871
              cases e871
              replace hx871_0 := (HB.out.cell (World.block_lt_of_cell? w _ hx871_0)).trans hx871_0
              replace p871 := eq_true p871
              replace q871 := eq_true q871
              obtain ⟨Ao12, co12, eo12⟩ := Kd.R_slice HO_4.out
              subst eo12
              go_wp2_with (first | ((with_reducible refine gate_callee (f := 95) rfl ?_); refine goesL_ (some 19) rfl rfl Try.func95 (by kernel_rfl) rfl #[.slice Ao12 x4_1.length co12, .string (rdOf ByteArray.empty l0 x6_1)] rfl (by (try simp only [List.map_toArray, List.map_cons, List.map_nil]); first | done | rfl | (simp only [List.length_drop, List.length_take]; rfl)) ?_; (with_reducible refine (bonsairef08_place.calls k1 _ _ x4_1 (rdOf ByteArray.empty l0 x6_1) t872 _ ?side1 ?side2 A4.out).mono ?_); (case side1 => repeat (first | exact (Kd.R_reads' HO_4.out).2.2 | (with_reducible refine Kd.C_alloc ?_ _) | (with_reducible refine Kd.C_drewN ?_ _) | (with_reducible refine Kd.C_drew ?_))); (case side2 => exact (Kd.R_reads' HO_4.out).2.1); rintro e w' ⟨rfl, ⟨nd, rfl⟩⟩; refine ⟨_, rfl, ?_⟩) | ((with_reducible refine gate_builtin (b := .append) (xs := #[.tmp 31, .tmp 34]) rfl ?_); at_builtin; refine Kd.R_append (Kd.int .u64) (w0 := w) w.heap.size rfl (.tmp 31) (.tmp 34) 38 51 (.int .u64 0) 8 rfl Try.underlying38 info51 rfl (by decide) (by omega) u5 x5_1 (IntKind.u64.wrap (t872)) [.int .u64 (IntKind.u64.wrap (t872))] (fun _ => True) (fun _ => False) rfl rfl ?aP (fun _ hk => hk.elim) ?aF ?aO ?aB ?aS ?aL ?_; (case aP => exact rfl); (case aB => exact (by repeat (first | (with_reducible first | exact HB.out | apply below_alloc | apply pw_below_drewN | apply below_drew1) | exact HB.out))); (case aF => exact (fun _ _ => trivial)); (case aO => exact (by (with_reducible repeat (first | apply Kd.R_alloc | apply Kd.R_drewN | apply Kd.R_drew)); exact HO_5.out)); (case aS => exact (below_size (by repeat (first | (with_reducible first | exact HB.out | apply below_alloc | apply pw_below_drewN | apply below_drew1) | exact HB.out)))); (case aL => have := LMc11.out; omega); intro v881 w13 ho hb hg hat; rw [← Ny880.out] at ho; have n0_ := Aside0.mk (Kd.R_over' (by (with_reducible repeat (first | apply Kd.R_alloc | apply Kd.R_drewN | apply Kd.R_drew)); exact HO_4.out) (Kd.R_typed (by (with_reducible repeat (first | apply Kd.R_alloc | apply Kd.R_drewN | apply Kd.R_drew)); exact HO_5.out)) (by decide) hg); have n1_ := Aside0.mk (hb); have n2_ := Aside0.mk (ho); clear HO_4; clear HB; clear HO_5; have HO_4 := n0_; have HB := n1_; have HO882 := n2_; clear n0_ n1_ n2_; clear ho hb hg hat))
              go_roundg k1
              case measure => have := HK1.out; omega
              case rel => exact ⟨(x4_1), (y880), (wrap64 (x6_1 + 1)), (by first | rfl | (simp; done) | (simp [*]; done)), H', ⟨by have := HK1.out; omega⟩, ⟨by (with_reducible repeat (first | apply Kd.R_alloc | apply Kd.R_drewN | apply Kd.R_drew)); exact HO_4.out⟩, ⟨by (with_reducible repeat (first | apply Kd.R_alloc | apply Kd.R_drewN | apply Kd.R_drew)); exact HO882.out⟩, ⟨by repeat (first | (with_reducible first | exact HB.out | apply below_alloc | apply pw_below_drewN | apply below_drew1) | exact HB.out)⟩⟩
            · rw [if_neg c11] at H
              exact absurd H (by simp)
        · rw [if_neg c3] at H
          exact absurd H (by simp)
      · rw [if_neg c2] at H
        have c2b0 : decide (x6_1 < (l0.length : Int)) = false := decide_eq_false c2
        clear c2
        simp only [Option.some.injEq, Prod.mk.injEq] at H
        obtain ⟨rfl, rfl⟩ := H
        go_wp2
        go_ret2
        exact ⟨_, _, by first | rfl | (simp [errW_none, errW_some] <;> rfl) | (simp [*, errW_none, errW_some] <;> rfl), by (with_reducible repeat (first | apply Kd.R_alloc | apply Kd.R_drewN | apply Kd.R_drew)); exact HO_4.out, by (with_reducible repeat (first | apply Kd.R_alloc | apply Kd.R_drewN | apply Kd.R_drew)); exact HO_5.out, by repeat (first | (with_reducible first | exact HB.out | apply below_alloc | apply pw_below_drewN | apply below_drew1) | exact HB.out)⟩
def bonsairef08_Pick.l0 : Nat → List ByteArray → List Int → List ByteArray → Int → Option (List ByteArray × Bool)
  | 0, _, _, _, _ => none
  | k + 1, x0, x1, x6, x7 => if x7 < (x1.length : Int) then (if 0 ≤ x7 then (if (rd x1 x7) ≥ (IntKind.u64.wrap ((x0.length : Int))) then (some (([] : List ByteArray), false)) else (if 0 ≤ (rd x1 x7) then (if (rd x1 x7) < (x0.length : Int) then (if x6.length < 8796093022208 then (bonsairef08_Pick.l0 k x0 x1 (x6 ++ [rdOf ByteArray.empty x0 (rd x1 x7)]) (wrap64 (x7 + 1))) else (none)) else (none)) else (none))) else (none)) else (some (x6, true))
def bonsairef08_Pick.f (k : Nat) (l0 : List ByteArray) (l1 : List Int) : Option (List ByteArray × Bool) := bonsairef08_Pick.l0 k l0 l1 ([] : List ByteArray) 0
set_option maxHeartbeats 8000000 in
set_option maxRecDepth 100000 in
theorem bonsairef08_Pick.calls (k : Nat) (A0 : Option Addr) (c0 : Nat) (l0 : List ByteArray) (A1 : Option Addr) (c1 : Nat) (l1 : List Int) (r1 : List ByteArray) (r2 : Bool) (w : World) (hr0 : Kd.C Kd.string w A0 l0.length l0) (hc0 : l0.length ≤ c0) (hr1 : Kd.C (Kd.int .u64) w A1 l1.length l1) (hc1 : l1.length ≤ c1) (h : bonsairef08_Pick.f k l0 l1 = some (r1, r2)) :
    Calls Try.prog 68 #[.slice A0 l0.length c0, .slice A1 l1.length c1] w fun e w' => ∃ v0_ : Value, e = .returned (.tuple #[v0_, .bool r2]) ∧ Kd.R Kd.string 9 w' w.heap.size (fun _ => True) v0_ r1 ∧ Below w.heap.size w w' := by
  have HR0 := Aside0.mk hr0
  have HC0 := Aside0.mk hc0
  clear hr0 hc0
  have HR1 := Aside0.mk hr1
  have HC1 := Aside0.mk hc1
  clear hr1 hc1
  have HB := Aside0.mk (Below.refl w.heap.size w)
  have H : (bonsairef08_Pick.l0 k l0 l1 ([] : List ByteArray) 0) = some (r1, r2) := h
  clear h
  have H' := Aside0.mk H
  clear H
  go_enter Try.func68, Try.ntmps68
  go_wp2
  go_loopg [6, 7] k (fun kq v6 v7 w' => ∃ (x6_1 : List ByteArray) (x7_1 : Int), v7 = .int .i64 x7_1 ∧ Aside0 (bonsairef08_Pick.l0 kq l0 l1 x6_1 x7_1 = some (r1, r2)) ∧ Aside0 (kq ≤ k) ∧ Aside0 (Kd.R Kd.string 9 w' w.heap.size (fun _ => True) v6 x6_1) ∧ Aside0 (Below w.heap.size w w'))
  case atStart => exact ⟨(([] : List ByteArray)), (0), (by first | rfl | (simp; done) | (simp [*]; done)), H', ⟨Nat.le_refl _⟩, ⟨by first | exact Kd.R_nil _ _ _ _ _ | exact Kd.N_nil _ _ _ _ _ | exact Kd.V_nil _ _ _ _ _ | exact Kd.Q_nil _ _ _ _ _ | exact Kd.S_nil _ _ _ _ _⟩, ⟨by repeat (first | (with_reducible first | exact HB.out | apply below_alloc | apply pw_below_drewN | apply below_drew1) | exact HB.out)⟩⟩
  case round =>
    clear H'
    try clear c1
    try clear p2
    obtain ⟨x6_1, x7_1, rfl, HA, HK1, HO_6, HB⟩ := hrel
    cases gk with
    | zero => exact absurd HA.out (by simp [bonsairef08_Pick.l0])
    | succ k1 =>
      have H := HA.out
      clear HA
      simp only [bonsairef08_Pick.l0] at H
      by_cases c3 : x7_1 < (l1.length : Int)
      · rw [if_pos c3] at H
        have c3b0 : decide (x7_1 < (l1.length : Int)) = true := decide_eq_true c3
        clear c3
        by_cases c4 : 0 ≤ x7_1
        · rw [if_pos c4] at H
          have c4b0 : decide (0 ≤ x7_1) = true := decide_eq_true c4
          clear c4
          by_cases c5 : (rd l1 x7_1) ≥ (IntKind.u64.wrap ((l0.length : Int)))
          · rw [if_pos c5] at H
            have c5b0 : decide ((IntKind.u64.wrap ((l0.length : Int))) ≤ (rd l1 x7_1)) = true := decide_eq_true c5
            clear c5
            simp only [Option.some.injEq, Prod.mk.injEq] at H
            obtain ⟨rfl, rfl⟩ := H
            have p883 : 0 ≤ (x7_1 : Int) := of_decide_eq_true (by first | (with_reducible assumption) | assumption)
            have q883 : x7_1 < (l1.length : Int) := of_decide_eq_true (by first | (with_reducible assumption) | assumption)
            obtain ⟨ad883, e883, hx883_0⟩ := Kd.at_int HR1.out x7_1 p883 q883
            cases e883
            replace hx883_0 := (HB.out.cell (World.block_lt_of_cell? w _ hx883_0)).trans hx883_0
            replace p883 := eq_true p883
            replace q883 := eq_true q883
            go_wp2
            go_ret2
            exact ⟨_, by first | rfl | (simp [errW_none, errW_some] <;> rfl) | (simp [*, errW_none, errW_some] <;> rfl), by first | exact Kd.R_nil _ _ _ _ _ | exact Kd.N_nil _ _ _ _ _ | exact Kd.V_nil _ _ _ _ _ | exact Kd.Q_nil _ _ _ _ _ | exact Kd.S_nil _ _ _ _ _, by repeat (first | (with_reducible first | exact HB.out | apply below_alloc | apply pw_below_drewN | apply below_drew1) | exact HB.out)⟩
          · rw [if_neg c5] at H
            have c5b0 : decide ((IntKind.u64.wrap ((l0.length : Int))) ≤ (rd l1 x7_1)) = false := decide_eq_false c5
            clear c5
            by_cases c6 : 0 ≤ (rd l1 x7_1)
            · rw [if_pos c6] at H
              have c6b0 : decide (0 ≤ (rd l1 x7_1)) = true := decide_eq_true c6
              clear c6
              by_cases c7 : (rd l1 x7_1) < (l0.length : Int)
              · rw [if_pos c7] at H
                have c7b0 : decide ((rd l1 x7_1) < (l0.length : Int)) = true := decide_eq_true c7
                clear c7
                by_cases c8 : x6_1.length < 8796093022208
                · rw [if_pos c8] at H
                  have LMc8 := Aside0.mk c8
                  clear c8
                  obtain ⟨y886, hy886⟩ : ∃ y_ : List ByteArray, y_ = (x6_1 ++ [rdOf ByteArray.empty l0 (rd l1 x7_1)]) := ⟨_, rfl⟩
                  replace H : (bonsairef08_Pick.l0 k1 l0 l1 y886 (wrap64 (x7_1 + 1))) = some (r1, r2) := by first | (rw [hy886]; with_reducible exact H) | (have H2_ := (Option.bind_some _ _).symm.trans H; rw [hy886]; with_reducible exact H2_) | (have H2_ := (Option.bind_some _ _).symm.trans H; with_reducible exact H2_) | with_reducible exact H | (rw [hy886]; exact H) | exact H
                  have Ny886 := Aside0.mk hy886
                  clear hy886
                  have H' := Aside0.mk H
                  clear H
                  have p883 : 0 ≤ (x7_1 : Int) := of_decide_eq_true (by first | (with_reducible assumption) | assumption)
                  have q883 : x7_1 < (l1.length : Int) := of_decide_eq_true (by first | (with_reducible assumption) | assumption)
                  obtain ⟨ad883, e883, hx883_0⟩ := Kd.at_int HR1.out x7_1 p883 q883
                  cases e883
                  replace hx883_0 := (HB.out.cell (World.block_lt_of_cell? w _ hx883_0)).trans hx883_0
                  replace p883 := eq_true p883
                  replace q883 := eq_true q883
                  have p884 : 0 ≤ (x7_1 : Int) := of_decide_eq_true (by first | (with_reducible assumption) | assumption)
                  have q884 : x7_1 < (l1.length : Int) := of_decide_eq_true (by first | (with_reducible assumption) | assumption)
                  obtain ⟨ad884, e884, hx884_0⟩ := Kd.at_int HR1.out x7_1 p884 q884
                  obtain rfl : ad883 = ad884 := (by injection e884)
                  replace hx884_0 := (HB.out.cell (World.block_lt_of_cell? w _ hx884_0)).trans hx884_0
                  replace p884 := eq_true p884
                  replace q884 := eq_true q884
                  have p885 : 0 ≤ ((rd l1 x7_1) : Int) := of_decide_eq_true (by first | (with_reducible assumption) | assumption)
                  have q885 : (rd l1 x7_1) < (l0.length : Int) := of_decide_eq_true (by first | (with_reducible assumption) | assumption)
                  obtain ⟨ad885, e885, hx885_0⟩ := Kd.at_string HR0.out (rd l1 x7_1) p885 q885
                  cases e885
                  replace hx885_0 := (HB.out.cell (World.block_lt_of_cell? w _ hx885_0)).trans hx885_0
                  replace p885 := eq_true p885
                  replace q885 := eq_true q885
                  go_wp2_with (first | ((with_reducible refine gate_builtin (b := .append) (xs := #[.tmp 22, .tmp 30]) rfl ?_); at_builtin; refine Kd.R_append Kd.string (w0 := w) w.heap.size rfl (.tmp 22) (.tmp 30) 35 9 (.string ⟨#[]⟩) 16 rfl Try.underlying35 info9 rfl (by decide) (by omega) u6 x6_1 (rdOf ByteArray.empty l0 (rd l1 x7_1)) [.string (rdOf ByteArray.empty l0 (rd l1 x7_1))] (fun _ => True) (fun _ => False) rfl rfl ?aP (fun _ hk => hk.elim) ?aF ?aO ?aB ?aS ?aL ?_; (case aP => exact rfl); (case aB => exact (by repeat (first | (with_reducible first | exact HB.out | apply below_alloc | apply pw_below_drewN | apply below_drew1) | exact HB.out))); (case aF => exact (fun _ _ => trivial)); (case aO => exact (by (with_reducible repeat (first | apply Kd.R_alloc | apply Kd.R_drewN | apply Kd.R_drew)); exact HO_6.out)); (case aS => exact (below_size (by repeat (first | (with_reducible first | exact HB.out | apply below_alloc | apply pw_below_drewN | apply below_drew1) | exact HB.out)))); (case aL => have := LMc8.out; omega); intro v887 w9 ho hb hg hat; rw [← Ny886.out] at ho; have n0_ := Aside0.mk (hb); have n1_ := Aside0.mk (ho); clear HB; clear HO_6; have HB := n0_; have HO888 := n1_; clear n0_ n1_; clear ho hb hg hat))
                  go_roundg k1
                  case measure => have := HK1.out; omega
                  case rel => exact ⟨(y886), (wrap64 (x7_1 + 1)), (by first | rfl | (simp; done) | (simp [*]; done)), H', ⟨by have := HK1.out; omega⟩, ⟨by (with_reducible repeat (first | apply Kd.R_alloc | apply Kd.R_drewN | apply Kd.R_drew)); exact HO888.out⟩, ⟨by repeat (first | (with_reducible first | exact HB.out | apply below_alloc | apply pw_below_drewN | apply below_drew1) | exact HB.out)⟩⟩
                · rw [if_neg c8] at H
                  exact absurd H (by simp)
              · rw [if_neg c7] at H
                exact absurd H (by simp)
            · rw [if_neg c6] at H
              exact absurd H (by simp)
        · rw [if_neg c4] at H
          exact absurd H (by simp)
      · rw [if_neg c3] at H
        have c3b0 : decide (x7_1 < (l1.length : Int)) = false := decide_eq_false c3
        clear c3
        simp only [Option.some.injEq, Prod.mk.injEq] at H
        obtain ⟨rfl, rfl⟩ := H
        go_wp2
        go_ret2
        exact ⟨_, by first | rfl | (simp [errW_none, errW_some] <;> rfl) | (simp [*, errW_none, errW_some] <;> rfl), by (with_reducible repeat (first | apply Kd.R_alloc | apply Kd.R_drewN | apply Kd.R_drew)); exact HO_6.out, by repeat (first | (with_reducible first | exact HB.out | apply below_alloc | apply pw_below_drewN | apply below_drew1) | exact HB.out)⟩
def bonsairef08_Encode.l0 : Nat → List ByteArray → List Int → ByteArray → Int → Option (ByteArray)
  | 0, _, _, _, _ => none
  | k + 1, x3, x4, x5, x6 => if x6 < (x3.length : Int) then (if 0 ≤ x6 then ((bonsairef04_Put.f k (rdOf ByteArray.empty x3 x6)).bind fun t897 => (if x5.size + t897.size ≤ 9223372036854775807 then (bonsairef08_Encode.l0 k x3 x4 (x5 ++ t897) (wrap64 (x6 + 1))) else (none))) else (none)) else ((bonsairef06_Encode.f k x4).bind fun t898 => (if x5.size + t898.size ≤ 9223372036854775807 then (some (x5 ++ t898)) else (none)))
def bonsairef08_Encode.f (k : Nat) (l0 : List ByteArray) : Option (ByteArray) := (bonsairef08_Words.f k l0).bind fun bt889 => ((bonsairef03_Put.f k (IntKind.u64.wrap ((bt889.1.length : Int)))).bind fun t895 => (bonsairef08_Encode.l0 k bt889.1 bt889.2 t895 0))
set_option maxHeartbeats 8000000 in
set_option maxRecDepth 100000 in
theorem bonsairef08_Encode.calls (k : Nat) (A0 : Option Addr) (c0 : Nat) (l0 : List ByteArray) (r : ByteArray) (w : World) (hr0 : Kd.C Kd.string w A0 l0.length l0) (hc0 : l0.length ≤ c0) (h : bonsairef08_Encode.f k l0 = some r) :
    Calls Try.prog 71 #[.slice A0 l0.length c0] w fun e w' => e = .returned (.string r) ∧ Below w.heap.size w w' := by
  have HR0 := Aside0.mk hr0
  have HC0 := Aside0.mk hc0
  clear hr0 hc0
  have HB := Aside0.mk (Below.refl w.heap.size w)
  have H : ((bonsairef08_Words.f k l0).bind fun bt889 => ((bonsairef03_Put.f k (IntKind.u64.wrap ((bt889.1.length : Int)))).bind fun t895 => (bonsairef08_Encode.l0 k bt889.1 bt889.2 t895 0))) = some r := h
  clear h
  replace H := Option.bind_eq_some_iff.mp H
  obtain ⟨⟨t889, t890⟩, A20, H⟩ := H
  replace H : ((bonsairef03_Put.f k (IntKind.u64.wrap ((t889.length : Int)))).bind fun t895 => (bonsairef08_Encode.l0 k t889 t890 t895 0)) = some r := H
  have A2 := Aside0.mk A20
  clear A20
  replace H := Option.bind_eq_some_iff.mp H
  obtain ⟨t895, A30, H⟩ := H
  replace H : (bonsairef08_Encode.l0 k t889 t890 t895 0) = some r := H
  have A3 := Aside0.mk A30
  clear A30
  have H' := Aside0.mk H
  clear H
  go_enter Try.func71, Try.ntmps71
  go_wp2_with (first | ((with_reducible refine gate_callee (f := 66) rfl ?_); refine goesL_ (some 9) rfl rfl Try.func66 (by kernel_rfl) rfl #[.slice A0 l0.length c0] rfl (by (try simp only [List.map_toArray, List.map_cons, List.map_nil]); first | done | rfl | (simp only [List.length_drop, List.length_take]; rfl)) ?_; (with_reducible refine (bonsairef08_Words.calls k _ _ l0 t889 t890 _ ?side1 ?side2 A2.out).mono ?_); (case side1 => repeat (first | exact HR0.out | (with_reducible refine Kd.C_alloc ?_ _) | (with_reducible refine Kd.C_drewN ?_ _) | (with_reducible refine Kd.C_drew ?_))); (case side2 => exact HC0.out); rintro e w4 ⟨v891, v893, rfl, ho0, ho1, hb⟩; refine ⟨_, rfl, ?_⟩; have n0_ := Aside0.mk (Kd.R_lower ho0 (below_size (by repeat (first | (with_reducible first | exact HB.out | apply below_alloc | apply pw_below_drewN | apply below_drew1) | exact HB.out)))); have n1_ := Aside0.mk (Kd.R_lower ho1 (below_size (by repeat (first | (with_reducible first | exact HB.out | apply below_alloc | apply pw_below_drewN | apply below_drew1) | exact HB.out)))); have n2_ := Aside0.mk (below_step (by repeat (first | (with_reducible first | exact HB.out | apply below_alloc | apply pw_below_drewN | apply below_drew1) | exact HB.out)) hb); clear HB; have HO892 := n0_; have HO894 := n1_; have HB := n2_; clear n0_ n1_ n2_; (try clear hb); (try clear hb2); (try clear hk); (try clear hi); (try clear ho0); (try clear ho1); obtain ⟨Ao5, co5, eo5⟩ := Kd.R_slice HO892.out; subst eo5) | ((with_reducible refine gate_callee (f := 79) rfl ?_); refine goesL_ (some 15) rfl rfl Try.func79 (by kernel_rfl) rfl #[.int .u64 (IntKind.u64.wrap ((t889.length : Int)))] rfl (by (try simp only [List.map_toArray, List.map_cons, List.map_nil]); first | done | rfl | (simp only [List.length_drop, List.length_take]; rfl)) ?_; (with_reducible refine (bonsairef03_Put.calls k (IntKind.u64.wrap ((t889.length : Int))) t895 _ A3.out).mono ?_); rintro e w6 ⟨rfl, hb⟩; refine ⟨_, rfl, ?_⟩; have n0_ := Aside0.mk (Kd.R_below (by (with_reducible repeat (first | apply Kd.R_alloc | apply Kd.R_drewN | apply Kd.R_drew)); exact HO892.out) hb); have n1_ := Aside0.mk (Kd.R_below (by (with_reducible repeat (first | apply Kd.R_alloc | apply Kd.R_drewN | apply Kd.R_drew)); exact HO894.out) hb); have n2_ := Aside0.mk (below_step (by repeat (first | (with_reducible first | exact HB.out | apply below_alloc | apply pw_below_drewN | apply below_drew1) | exact HB.out)) hb); clear HO892; clear HO894; clear HB; have HO892 := n0_; have HO894 := n1_; have HB := n2_; clear n0_ n1_ n2_; (try clear hb); (try clear hb2); (try clear hk); (try clear hi)))
  go_loopg [5, 6] k (fun kq v5 v6 w' => ∃ (x5_1 : ByteArray) (x6_1 : Int), v5 = .string x5_1 ∧ v6 = .int .i64 x6_1 ∧ Aside0 (bonsairef08_Encode.l0 kq t889 t890 x5_1 x6_1 = some r) ∧ Aside0 (kq ≤ k) ∧ Aside0 (Kd.R Kd.string 9 w' w.heap.size (fun _ => True) (.slice Ao5 t889.length co5) t889) ∧ Aside0 (Kd.R (Kd.int .u64) 51 w' w.heap.size (fun _ => True) v893 t890) ∧ Aside0 (Below w.heap.size w w'))
  case atStart => exact ⟨(t895), (0), (by first | rfl | (simp; done) | (simp [*]; done)), (by first | rfl | (simp; done) | (simp [*]; done)), H', ⟨Nat.le_refl _⟩, ⟨by (with_reducible repeat (first | apply Kd.R_alloc | apply Kd.R_drewN | apply Kd.R_drew)); exact HO892.out⟩, ⟨by (with_reducible repeat (first | apply Kd.R_alloc | apply Kd.R_drewN | apply Kd.R_drew)); exact HO894.out⟩, ⟨by repeat (first | (with_reducible first | exact HB.out | apply below_alloc | apply pw_below_drewN | apply below_drew1) | exact HB.out)⟩⟩
  case round =>
    clear H'
    try clear p2
    try clear c6
    obtain ⟨x5_1, x6_1, rfl, rfl, HA, HK1, HO_3, HO_4, HB⟩ := hrel
    cases gk with
    | zero => exact absurd HA.out (by simp [bonsairef08_Encode.l0])
    | succ k1 =>
      have H := HA.out
      clear HA
      simp only [bonsairef08_Encode.l0] at H
      by_cases c7 : x6_1 < (t889.length : Int)
      · rw [if_pos c7] at H
        have c7b0 : decide (x6_1 < (t889.length : Int)) = true := decide_eq_true c7
        clear c7
        by_cases c8 : 0 ≤ x6_1
        · rw [if_pos c8] at H
          have c8b0 : decide (0 ≤ x6_1) = true := decide_eq_true c8
          clear c8
          replace H := Option.bind_eq_some_iff.mp H
          obtain ⟨t897, A90, H⟩ := H
          replace H : (if x5_1.size + t897.size ≤ 9223372036854775807 then (bonsairef08_Encode.l0 k1 t889 t890 (x5_1 ++ t897) (wrap64 (x6_1 + 1))) else (none)) = some r := H
          have A9 := Aside0.mk A90
          clear A90
          by_cases c10 : x5_1.size + t897.size ≤ 9223372036854775807
          · rw [if_pos c10] at H
            have c10b0 := eq_true c10
            have c10b1 : decide (x5_1.size + t897.size ≤ 9223372036854775807) = true := decide_eq_true c10
            try have c10b2 : (9223372036854775807 < x5_1.size + t897.size) = False := eq_false (Nat.not_lt.2 c10)
            try (have c10b3 := c10b2; simp only [ByteArray.size_append] at c10b3)
            clear c10
            have H' := Aside0.mk H
            clear H
            have p896 : 0 ≤ (x6_1 : Int) := of_decide_eq_true (by first | (with_reducible assumption) | assumption)
            have q896 : x6_1 < (t889.length : Int) := of_decide_eq_true (by first | (with_reducible assumption) | assumption)
            obtain ⟨ad896, e896, hx896_0⟩ := Kd.at_string (Kd.R_reads' HO_3.out).2.2 x6_1 p896 q896
            cases e896
            replace p896 := eq_true p896
            replace q896 := eq_true q896
            go_wp2_with (first | ((with_reducible refine gate_callee (f := 34) rfl ?_); refine goesL_ (some 27) rfl rfl Try.func34 (by kernel_rfl) rfl #[.string (rdOf ByteArray.empty t889 x6_1)] rfl (by (try simp only [List.map_toArray, List.map_cons, List.map_nil]); first | done | rfl | (simp only [List.length_drop, List.length_take]; rfl)) ?_; (with_reducible refine (bonsairef04_Put.calls k1 (rdOf ByteArray.empty t889 x6_1) t897 _ A9.out).mono ?_); rintro e w11 ⟨rfl, hb⟩; refine ⟨_, rfl, ?_⟩; have n0_ := Aside0.mk (Kd.R_below (by (with_reducible repeat (first | apply Kd.R_alloc | apply Kd.R_drewN | apply Kd.R_drew)); exact HO_3.out) hb); have n1_ := Aside0.mk (Kd.R_below (by (with_reducible repeat (first | apply Kd.R_alloc | apply Kd.R_drewN | apply Kd.R_drew)); exact HO_4.out) hb); have n2_ := Aside0.mk (below_step (by repeat (first | (with_reducible first | exact HB.out | apply below_alloc | apply pw_below_drewN | apply below_drew1) | exact HB.out)) hb); clear HO_3; clear HO_4; clear HB; have HO_3 := n0_; have HO_4 := n1_; have HB := n2_; clear n0_ n1_ n2_; (try clear hb); (try clear hb2); (try clear hk); (try clear hi)))
            go_roundg k1
            case measure => have := HK1.out; omega
            case rel => exact ⟨(x5_1 ++ t897), (wrap64 (x6_1 + 1)), (by first | rfl | (simp; done) | (simp [*]; done)), (by first | rfl | (simp; done) | (simp [*]; done)), H', ⟨by have := HK1.out; omega⟩, ⟨by (with_reducible repeat (first | apply Kd.R_alloc | apply Kd.R_drewN | apply Kd.R_drew)); exact HO_3.out⟩, ⟨by (with_reducible repeat (first | apply Kd.R_alloc | apply Kd.R_drewN | apply Kd.R_drew)); exact HO_4.out⟩, ⟨by repeat (first | (with_reducible first | exact HB.out | apply below_alloc | apply pw_below_drewN | apply below_drew1) | exact HB.out)⟩⟩
          · rw [if_neg c10] at H
            exact absurd H (by simp)
        · rw [if_neg c8] at H
          exact absurd H (by simp)
      · rw [if_neg c7] at H
        have c7b0 : decide (x6_1 < (t889.length : Int)) = false := decide_eq_false c7
        clear c7
        replace H := Option.bind_eq_some_iff.mp H
        obtain ⟨t898, A120, H⟩ := H
        replace H : (if x5_1.size + t898.size ≤ 9223372036854775807 then (some (x5_1 ++ t898)) else (none)) = some r := H
        have A12 := Aside0.mk A120
        clear A120
        by_cases c13 : x5_1.size + t898.size ≤ 9223372036854775807
        · rw [if_pos c13] at H
          have c13b0 := eq_true c13
          have c13b1 : decide (x5_1.size + t898.size ≤ 9223372036854775807) = true := decide_eq_true c13
          try have c13b2 : (9223372036854775807 < x5_1.size + t898.size) = False := eq_false (Nat.not_lt.2 c13)
          try (have c13b3 := c13b2; simp only [ByteArray.size_append] at c13b3)
          clear c13
          obtain rfl := Option.some.inj H
          obtain ⟨Ao14, co14, eo14⟩ := Kd.R_slice HO_4.out
          subst eo14
          go_wp2_with (first | ((with_reducible refine gate_callee (f := 45) rfl ?_); refine goesL_ (some 31) rfl rfl Try.func45 (by kernel_rfl) rfl #[.slice Ao14 t890.length co14] rfl (by (try simp only [List.map_toArray, List.map_cons, List.map_nil]); first | done | rfl | (simp only [List.length_drop, List.length_take]; rfl)) ?_; (with_reducible refine (bonsairef06_Encode.calls k1 _ _ t890 t898 _ ?side1 ?side2 A12.out).mono ?_); (case side1 => repeat (first | exact (Kd.R_reads' HO_4.out).2.2 | (with_reducible refine Kd.C_alloc ?_ _) | (with_reducible refine Kd.C_drewN ?_ _) | (with_reducible refine Kd.C_drew ?_))); (case side2 => exact (Kd.R_reads' HO_4.out).2.1); rintro e w15 ⟨rfl, hb⟩; refine ⟨_, rfl, ?_⟩; have n0_ := Aside0.mk (Kd.R_below (by (with_reducible repeat (first | apply Kd.R_alloc | apply Kd.R_drewN | apply Kd.R_drew)); exact HO_3.out) hb); have n1_ := Aside0.mk (Kd.R_below (by (with_reducible repeat (first | apply Kd.R_alloc | apply Kd.R_drewN | apply Kd.R_drew)); exact HO_4.out) hb); have n2_ := Aside0.mk (below_step (by repeat (first | (with_reducible first | exact HB.out | apply below_alloc | apply pw_below_drewN | apply below_drew1) | exact HB.out)) hb); clear HO_3; clear HO_4; clear HB; have HO_3 := n0_; have HO_4 := n1_; have HB := n2_; clear n0_ n1_ n2_; (try clear hb); (try clear hb2); (try clear hk); (try clear hi)))
          go_ret
          exact ⟨by first | rfl | (simp [errW_none, errW_some] <;> rfl) | (simp [*, errW_none, errW_some] <;> rfl), by repeat (first | (with_reducible first | exact HB.out | apply below_alloc | apply pw_below_drewN | apply below_drew1) | exact HB.out)⟩
        · rw [if_neg c13] at H
          exact absurd H (by simp)
def bonsairef08_May.f (k : Nat) (l0 : List ByteArray) (l1 : List Int) : Option (Bool) := (bonsairef08_Pick.f k l0 l1).bind fun bt899 => (if bt899.2 = true then ((bonsairef08_Words.f k bt899.1).bind fun bt903 => ((bonsairef04_Same.f k bt903.1 l0).bind fun t909 => (if t909 = true then ((bonsairef06_Same.f k bt903.2 l1).bind fun t910 => (some t910)) else (some false)))) else (some false))
set_option maxHeartbeats 8000000 in
set_option maxRecDepth 100000 in
theorem bonsairef08_May.calls (k : Nat) (A0 : Option Addr) (c0 : Nat) (l0 : List ByteArray) (A1 : Option Addr) (c1 : Nat) (l1 : List Int) (r : Bool) (w : World) (hr0 : Kd.C Kd.string w A0 l0.length l0) (hc0 : l0.length ≤ c0) (hr1 : Kd.C (Kd.int .u64) w A1 l1.length l1) (hc1 : l1.length ≤ c1) (h : bonsairef08_May.f k l0 l1 = some r) :
    Calls Try.prog 73 #[.slice A0 l0.length c0, .slice A1 l1.length c1] w fun e w' => e = .returned (.bool r) ∧ Below w.heap.size w w' := by
  have HR0 := Aside0.mk hr0
  have HC0 := Aside0.mk hc0
  clear hr0 hc0
  have HR1 := Aside0.mk hr1
  have HC1 := Aside0.mk hc1
  clear hr1 hc1
  have HB := Aside0.mk (Below.refl w.heap.size w)
  have H : ((bonsairef08_Pick.f k l0 l1).bind fun bt899 => (if bt899.2 = true then ((bonsairef08_Words.f k bt899.1).bind fun bt903 => ((bonsairef04_Same.f k bt903.1 l0).bind fun t909 => (if t909 = true then ((bonsairef06_Same.f k bt903.2 l1).bind fun t910 => (some t910)) else (some false)))) else (some false))) = some r := h
  clear h
  replace H := Option.bind_eq_some_iff.mp H
  obtain ⟨⟨t899, t900⟩, A30, H⟩ := H
  replace H : (if t900 = true then ((bonsairef08_Words.f k t899).bind fun bt903 => ((bonsairef04_Same.f k bt903.1 l0).bind fun t909 => (if t909 = true then ((bonsairef06_Same.f k bt903.2 l1).bind fun t910 => (some t910)) else (some false)))) else (some false)) = some r := H
  have A3 := Aside0.mk A30
  clear A30
  by_cases c4 : t900 = true
  · subst c4
    have H1 : ((bonsairef08_Words.f k t899).bind fun bt903 => ((bonsairef04_Same.f k bt903.1 l0).bind fun t909 => (if t909 = true then ((bonsairef06_Same.f k bt903.2 l1).bind fun t910 => (some t910)) else (some false)))) = some r := by rw [if_pos rfl] at H; exact H
    clear H
    have H := H1
    clear H1
    replace H := Option.bind_eq_some_iff.mp H
    obtain ⟨⟨t903, t904⟩, A50, H⟩ := H
    replace H : ((bonsairef04_Same.f k t903 l0).bind fun t909 => (if t909 = true then ((bonsairef06_Same.f k t904 l1).bind fun t910 => (some t910)) else (some false))) = some r := H
    have A5 := Aside0.mk A50
    clear A50
    replace H := Option.bind_eq_some_iff.mp H
    obtain ⟨t909, A60, H⟩ := H
    replace H : (if t909 = true then ((bonsairef06_Same.f k t904 l1).bind fun t910 => (some t910)) else (some false)) = some r := H
    have A6 := Aside0.mk A60
    clear A60
    by_cases c7 : t909 = true
    · subst c7
      have H1 : ((bonsairef06_Same.f k t904 l1).bind fun t910 => (some t910)) = some r := by rw [if_pos rfl] at H; exact H
      clear H
      have H := H1
      clear H1
      replace H := Option.bind_eq_some_iff.mp H
      obtain ⟨t910, A80, H⟩ := H
      replace H : (some t910) = some r := H
      have A8 := Aside0.mk A80
      clear A80
      obtain rfl := Option.some.inj H
      go_enter Try.func73, Try.ntmps73
      go_wp2_with (first | ((with_reducible refine gate_callee (f := 68) rfl ?_); refine goesL_ (some 12) rfl rfl Try.func68 (by kernel_rfl) rfl #[.slice A0 l0.length c0, .slice A1 l1.length c1] rfl (by (try simp only [List.map_toArray, List.map_cons, List.map_nil]); first | done | rfl | (simp only [List.length_drop, List.length_take]; rfl)) ?_; (with_reducible refine (bonsairef08_Pick.calls k _ _ l0 _ _ l1 t899 true _ ?side1 ?side2 ?side3 ?side4 A3.out).mono ?_); (case side1 => repeat (first | exact HR0.out | (with_reducible refine Kd.C_alloc ?_ _) | (with_reducible refine Kd.C_drewN ?_ _) | (with_reducible refine Kd.C_drew ?_))); (case side2 => exact HC0.out); (case side3 => repeat (first | exact HR1.out | (with_reducible refine Kd.C_alloc ?_ _) | (with_reducible refine Kd.C_drewN ?_ _) | (with_reducible refine Kd.C_drew ?_))); (case side4 => exact HC1.out); rintro e w9 ⟨v901, rfl, ho0, hb⟩; refine ⟨_, rfl, ?_⟩; have n0_ := Aside0.mk (Kd.R_lower ho0 (below_size (by repeat (first | (with_reducible first | exact HB.out | apply below_alloc | apply pw_below_drewN | apply below_drew1) | exact HB.out)))); have n1_ := Aside0.mk (below_step (by repeat (first | (with_reducible first | exact HB.out | apply below_alloc | apply pw_below_drewN | apply below_drew1) | exact HB.out)) hb); clear HB; have HO902 := n0_; have HB := n1_; clear n0_ n1_; (try clear hb); (try clear hb2); (try clear hk); (try clear hi); (try clear ho0); obtain ⟨Ao10, co10, eo10⟩ := Kd.R_slice HO902.out; subst eo10) | ((with_reducible refine gate_callee (f := 66) rfl ?_); refine goesL_ (some 19) rfl rfl Try.func66 (by kernel_rfl) rfl #[.slice Ao10 t899.length co10] rfl (by (try simp only [List.map_toArray, List.map_cons, List.map_nil]); first | done | rfl | (simp only [List.length_drop, List.length_take]; rfl)) ?_; (with_reducible refine (bonsairef08_Words.calls k _ _ t899 t903 t904 _ ?side1 ?side2 A5.out).mono ?_); (case side1 => repeat (first | exact (Kd.R_reads' HO902.out).2.2 | (with_reducible refine Kd.C_alloc ?_ _) | (with_reducible refine Kd.C_drewN ?_ _) | (with_reducible refine Kd.C_drew ?_))); (case side2 => exact (Kd.R_reads' HO902.out).2.1); rintro e w11 ⟨v905, v907, rfl, ho0, ho1, hb⟩; refine ⟨_, rfl, ?_⟩; have n0_ := Aside0.mk (Kd.R_elder' (by (with_reducible repeat (first | apply Kd.R_alloc | apply Kd.R_drewN | apply Kd.R_drew)); exact HO902.out) (Kd.R_base ho0) hb); have n1_ := Aside0.mk (Kd.R_lower (Kd.R_new' ho0 (Kd.R_lt (by (with_reducible repeat (first | apply Kd.R_alloc | apply Kd.R_drewN | apply Kd.R_drew)); exact HO902.out))) (below_size (by repeat (first | (with_reducible first | exact HB.out | apply below_alloc | apply pw_below_drewN | apply below_drew1) | exact HB.out)))); have n2_ := Aside0.mk (Kd.R_lower ho1 (below_size (by repeat (first | (with_reducible first | exact HB.out | apply below_alloc | apply pw_below_drewN | apply below_drew1) | exact HB.out)))); have n3_ := Aside0.mk (below_step (by repeat (first | (with_reducible first | exact HB.out | apply below_alloc | apply pw_below_drewN | apply below_drew1) | exact HB.out)) hb); clear HO902; clear HB; have HO902 := n0_; have HO906 := n1_; have HO908 := n2_; have HB := n3_; clear n0_ n1_ n2_ n3_; (try clear hb); (try clear hb2); (try clear hk); (try clear hi); (try clear ho0); (try clear ho1); obtain ⟨Ao12, co12, eo12⟩ := Kd.R_slice HO906.out; subst eo12) | ((with_reducible refine gate_callee (f := 69) rfl ?_); refine goesL_ (some 24) rfl rfl Try.func69 (by kernel_rfl) rfl #[.slice Ao12 t903.length co12, .slice A0 l0.length c0] rfl (by (try simp only [List.map_toArray, List.map_cons, List.map_nil]); first | done | rfl | (simp only [List.length_drop, List.length_take]; rfl)) ?_; (with_reducible refine (bonsairef04_Same.calls k _ _ t903 _ _ l0 true _ ?side1 ?side2 ?side3 ?side4 A6.out).mono ?_); (case side1 => repeat (first | exact (Kd.R_reads' HO906.out).2.2 | (with_reducible refine Kd.C_alloc ?_ _) | (with_reducible refine Kd.C_drewN ?_ _) | (with_reducible refine Kd.C_drew ?_))); (case side2 => exact (Kd.R_reads' HO906.out).2.1); (case side3 => repeat (first | exact (Kd.C_below HR0.out HB.out) | (with_reducible refine Kd.C_alloc ?_ _) | (with_reducible refine Kd.C_drewN ?_ _) | (with_reducible refine Kd.C_drew ?_))); (case side4 => exact HC0.out); rintro e w' ⟨rfl, ⟨nd, rfl⟩⟩; refine ⟨_, rfl, ?_⟩; obtain ⟨Ao13, co13, eo13⟩ := Kd.R_slice HO908.out; subst eo13) | (go_at_call 48; (with_reducible refine (bonsairef06_Same.calls k _ _ t904 _ _ l1 t910 _ ?side1 ?side2 ?side3 ?side4 A8.out).mono ?_); (case side1 => repeat (first | exact (Kd.R_reads' HO908.out).2.2 | (with_reducible refine Kd.C_alloc ?_ _) | (with_reducible refine Kd.C_drewN ?_ _) | (with_reducible refine Kd.C_drew ?_))); (case side2 => exact (Kd.R_reads' HO908.out).2.1); (case side3 => repeat (first | exact (Kd.C_below HR1.out (by repeat (first | (with_reducible first | exact HB.out | apply below_alloc | apply pw_below_drewN | apply below_drew1) | exact HB.out))) | (with_reducible refine Kd.C_alloc ?_ _) | (with_reducible refine Kd.C_drewN ?_ _) | (with_reducible refine Kd.C_drew ?_))); (case side4 => exact HC1.out); rintro e w' ⟨rfl, ⟨nd, rfl⟩⟩))
      go_ret
      exact ⟨by first | rfl | (simp [errW_none, errW_some] <;> rfl) | (simp [*, errW_none, errW_some] <;> rfl), by repeat (first | (with_reducible first | exact HB.out | apply below_alloc | apply pw_below_drewN | apply below_drew1) | exact HB.out)⟩
    · replace c7 := Bool.eq_false_iff.mpr c7
      subst c7
      have H1 : (some false) = some r := by rw [if_neg (show ¬ (false = true) by decide)] at H; exact H
      clear H
      have H := H1
      clear H1
      obtain rfl := Option.some.inj H
      go_enter Try.func73, Try.ntmps73
      go_wp2_with (first | ((with_reducible refine gate_callee (f := 68) rfl ?_); refine goesL_ (some 12) rfl rfl Try.func68 (by kernel_rfl) rfl #[.slice A0 l0.length c0, .slice A1 l1.length c1] rfl (by (try simp only [List.map_toArray, List.map_cons, List.map_nil]); first | done | rfl | (simp only [List.length_drop, List.length_take]; rfl)) ?_; (with_reducible refine (bonsairef08_Pick.calls k _ _ l0 _ _ l1 t899 true _ ?side1 ?side2 ?side3 ?side4 A3.out).mono ?_); (case side1 => repeat (first | exact HR0.out | (with_reducible refine Kd.C_alloc ?_ _) | (with_reducible refine Kd.C_drewN ?_ _) | (with_reducible refine Kd.C_drew ?_))); (case side2 => exact HC0.out); (case side3 => repeat (first | exact HR1.out | (with_reducible refine Kd.C_alloc ?_ _) | (with_reducible refine Kd.C_drewN ?_ _) | (with_reducible refine Kd.C_drew ?_))); (case side4 => exact HC1.out); rintro e w14 ⟨v901, rfl, ho0, hb⟩; refine ⟨_, rfl, ?_⟩; have n0_ := Aside0.mk (Kd.R_lower ho0 (below_size (by repeat (first | (with_reducible first | exact HB.out | apply below_alloc | apply pw_below_drewN | apply below_drew1) | exact HB.out)))); have n1_ := Aside0.mk (below_step (by repeat (first | (with_reducible first | exact HB.out | apply below_alloc | apply pw_below_drewN | apply below_drew1) | exact HB.out)) hb); clear HB; have HO902 := n0_; have HB := n1_; clear n0_ n1_; (try clear hb); (try clear hb2); (try clear hk); (try clear hi); (try clear ho0); obtain ⟨Ao15, co15, eo15⟩ := Kd.R_slice HO902.out; subst eo15) | ((with_reducible refine gate_callee (f := 66) rfl ?_); refine goesL_ (some 19) rfl rfl Try.func66 (by kernel_rfl) rfl #[.slice Ao15 t899.length co15] rfl (by (try simp only [List.map_toArray, List.map_cons, List.map_nil]); first | done | rfl | (simp only [List.length_drop, List.length_take]; rfl)) ?_; (with_reducible refine (bonsairef08_Words.calls k _ _ t899 t903 t904 _ ?side1 ?side2 A5.out).mono ?_); (case side1 => repeat (first | exact (Kd.R_reads' HO902.out).2.2 | (with_reducible refine Kd.C_alloc ?_ _) | (with_reducible refine Kd.C_drewN ?_ _) | (with_reducible refine Kd.C_drew ?_))); (case side2 => exact (Kd.R_reads' HO902.out).2.1); rintro e w16 ⟨v905, v907, rfl, ho0, ho1, hb⟩; refine ⟨_, rfl, ?_⟩; have n0_ := Aside0.mk (Kd.R_elder' (by (with_reducible repeat (first | apply Kd.R_alloc | apply Kd.R_drewN | apply Kd.R_drew)); exact HO902.out) (Kd.R_base ho0) hb); have n1_ := Aside0.mk (Kd.R_lower (Kd.R_new' ho0 (Kd.R_lt (by (with_reducible repeat (first | apply Kd.R_alloc | apply Kd.R_drewN | apply Kd.R_drew)); exact HO902.out))) (below_size (by repeat (first | (with_reducible first | exact HB.out | apply below_alloc | apply pw_below_drewN | apply below_drew1) | exact HB.out)))); have n2_ := Aside0.mk (Kd.R_lower ho1 (below_size (by repeat (first | (with_reducible first | exact HB.out | apply below_alloc | apply pw_below_drewN | apply below_drew1) | exact HB.out)))); have n3_ := Aside0.mk (below_step (by repeat (first | (with_reducible first | exact HB.out | apply below_alloc | apply pw_below_drewN | apply below_drew1) | exact HB.out)) hb); clear HO902; clear HB; have HO902 := n0_; have HO906 := n1_; have HO908 := n2_; have HB := n3_; clear n0_ n1_ n2_ n3_; (try clear hb); (try clear hb2); (try clear hk); (try clear hi); (try clear ho0); (try clear ho1); obtain ⟨Ao17, co17, eo17⟩ := Kd.R_slice HO906.out; subst eo17) | ((with_reducible refine gate_callee (f := 69) rfl ?_); refine goesL_ (some 24) rfl rfl Try.func69 (by kernel_rfl) rfl #[.slice Ao17 t903.length co17, .slice A0 l0.length c0] rfl (by (try simp only [List.map_toArray, List.map_cons, List.map_nil]); first | done | rfl | (simp only [List.length_drop, List.length_take]; rfl)) ?_; (with_reducible refine (bonsairef04_Same.calls k _ _ t903 _ _ l0 false _ ?side1 ?side2 ?side3 ?side4 A6.out).mono ?_); (case side1 => repeat (first | exact (Kd.R_reads' HO906.out).2.2 | (with_reducible refine Kd.C_alloc ?_ _) | (with_reducible refine Kd.C_drewN ?_ _) | (with_reducible refine Kd.C_drew ?_))); (case side2 => exact (Kd.R_reads' HO906.out).2.1); (case side3 => repeat (first | exact (Kd.C_below HR0.out HB.out) | (with_reducible refine Kd.C_alloc ?_ _) | (with_reducible refine Kd.C_drewN ?_ _) | (with_reducible refine Kd.C_drew ?_))); (case side4 => exact HC0.out); rintro e w' ⟨rfl, ⟨nd, rfl⟩⟩; refine ⟨_, rfl, ?_⟩))
      go_ret
      exact ⟨by first | rfl | (simp [errW_none, errW_some] <;> rfl) | (simp [*, errW_none, errW_some] <;> rfl), by repeat (first | (with_reducible first | exact HB.out | apply below_alloc | apply pw_below_drewN | apply below_drew1) | exact HB.out)⟩
  · replace c4 := Bool.eq_false_iff.mpr c4
    subst c4
    have H1 : (some false) = some r := by rw [if_neg (show ¬ (false = true) by decide)] at H; exact H
    clear H
    have H := H1
    clear H1
    obtain rfl := Option.some.inj H
    go_enter Try.func73, Try.ntmps73
    go_wp2_with (first | ((with_reducible refine gate_callee (f := 68) rfl ?_); refine goesL_ (some 12) rfl rfl Try.func68 (by kernel_rfl) rfl #[.slice A0 l0.length c0, .slice A1 l1.length c1] rfl (by (try simp only [List.map_toArray, List.map_cons, List.map_nil]); first | done | rfl | (simp only [List.length_drop, List.length_take]; rfl)) ?_; (with_reducible refine (bonsairef08_Pick.calls k _ _ l0 _ _ l1 t899 false _ ?side1 ?side2 ?side3 ?side4 A3.out).mono ?_); (case side1 => repeat (first | exact HR0.out | (with_reducible refine Kd.C_alloc ?_ _) | (with_reducible refine Kd.C_drewN ?_ _) | (with_reducible refine Kd.C_drew ?_))); (case side2 => exact HC0.out); (case side3 => repeat (first | exact HR1.out | (with_reducible refine Kd.C_alloc ?_ _) | (with_reducible refine Kd.C_drewN ?_ _) | (with_reducible refine Kd.C_drew ?_))); (case side4 => exact HC1.out); rintro e w18 ⟨v901, rfl, ho0, hb⟩; refine ⟨_, rfl, ?_⟩; have n0_ := Aside0.mk (Kd.R_lower ho0 (below_size (by repeat (first | (with_reducible first | exact HB.out | apply below_alloc | apply pw_below_drewN | apply below_drew1) | exact HB.out)))); have n1_ := Aside0.mk (below_step (by repeat (first | (with_reducible first | exact HB.out | apply below_alloc | apply pw_below_drewN | apply below_drew1) | exact HB.out)) hb); clear HB; have HO902 := n0_; have HB := n1_; clear n0_ n1_; (try clear hb); (try clear hb2); (try clear hk); (try clear hi); (try clear ho0)))
    go_ret
    exact ⟨by first | rfl | (simp [errW_none, errW_some] <;> rfl) | (simp [*, errW_none, errW_some] <;> rfl), by repeat (first | (with_reducible first | exact HB.out | apply below_alloc | apply pw_below_drewN | apply below_drew1) | exact HB.out)⟩
def bonsailaw08_DictTells.j0 : Nat → List ByteArray → List ByteArray → List Int → Bool → Option (Bool)
  | 0, _, _, _, _ => none
  | k + 1, x0, x1, x2, x27 => if x27 = true then ((bonsailaw08_live.f k).bind fun t913 => (some t913)) else ((dict_Words.f x0).bind fun bt914 => ((bonsairef08_Words.f k x0).bind fun bt920 => ((dict_Pick.f x1 x2).bind fun bt926 => ((bonsairef08_Pick.f k x1 x2).bind fun bt930 => ((bonsairef04_Same.f k bt914.1 bt920.1).bind fun t934 => (if t934 = true then ((bonsairef06_Same.f k bt914.2 bt920.2).bind fun t935 => (if t935 = true then ((dict_Encode.f k x0).bind fun t936 => ((bonsairef08_Encode.f k x0).bind fun t937 => (if t936.toList = t937.toList then ((bonsairef04_Same.f k bt926.1 bt930.1).bind fun t938 => (if t938 = true then (if (bt926.2 == bt930.2) = true then ((dict_May.f x1 x2).bind fun t939 => ((bonsairef08_May.f k x1 x2).bind fun t940 => (if (t939 == t940) = true then ((bonsailaw08_live.f k).bind fun t941 => (some t941)) else (none)))) else (none)) else (none))) else (none)))) else (none))) else (none)))))))
def bonsailaw08_DictTells.f (k : Nat) (l0 : List ByteArray) (l1 : List ByteArray) (l2 : List Int) : Option (Bool) := (bonsairef04_Few.f k l0 60 60).bind fun t911 => (if t911 = true then ((bonsairef04_Few.f k l1 60 60).bind fun t912 => (if t912 = true then (bonsailaw08_DictTells.j0 k l0 l1 l2 (decide ((l2.length : Int) > 60))) else (bonsailaw08_DictTells.j0 k l0 l1 l2 true))) else (bonsailaw08_DictTells.j0 k l0 l1 l2 true))
set_option maxHeartbeats 8000000 in
set_option maxRecDepth 100000 in
theorem bonsailaw08_DictTells.calls (k : Nat) (A0 : Option Addr) (c0 : Nat) (l0 : List ByteArray) (A1 : Option Addr) (c1 : Nat) (l1 : List ByteArray) (A2 : Option Addr) (c2 : Nat) (l2 : List Int) (r : Bool) (w : World) (hr0 : Kd.C Kd.string w A0 l0.length l0) (hc0 : l0.length ≤ c0) (hr1 : Kd.C Kd.string w A1 l1.length l1) (hc1 : l1.length ≤ c1) (hr2 : Kd.C (Kd.int .u64) w A2 l2.length l2) (hc2 : l2.length ≤ c2) (h : bonsailaw08_DictTells.f k l0 l1 l2 = some r) :
    Calls Try.prog 19 #[.slice A0 l0.length c0, .slice A1 l1.length c1, .slice A2 l2.length c2] w fun e w' => e = .returned (.bool r) ∧ Below w.heap.size w w' := by
  have HR0 := Aside0.mk hr0
  have HC0 := Aside0.mk hc0
  clear hr0 hc0
  have HR1 := Aside0.mk hr1
  have HC1 := Aside0.mk hc1
  clear hr1 hc1
  have HR2 := Aside0.mk hr2
  have HC2 := Aside0.mk hc2
  clear hr2 hc2
  have HB := Aside0.mk (Below.refl w.heap.size w)
  have H : ((bonsairef04_Few.f k l0 60 60).bind fun t911 => (if t911 = true then ((bonsairef04_Few.f k l1 60 60).bind fun t912 => (if t912 = true then (bonsailaw08_DictTells.j0 k l0 l1 l2 (decide ((l2.length : Int) > 60))) else (bonsailaw08_DictTells.j0 k l0 l1 l2 true))) else (bonsailaw08_DictTells.j0 k l0 l1 l2 true))) = some r := h
  clear h
  have HC4 := Aside0.mk H
  clear H
  go_enter Try.func19, Try.ntmps19
  go_upto_region 1 with (fail)
  go_cut [27] (fun v27 wc => ∃ (kq : Nat) (x27_3 : Bool), v27 = .bool x27_3 ∧ Aside0 (bonsailaw08_DictTells.j0 kq l0 l1 l2 x27_3 = some r) ∧ Aside0 (kq ≤ k) ∧ Aside0 (Below w.heap.size w wc))
  case first =>
    have H := HC4.out
    clear HC4
    replace H := Option.bind_eq_some_iff.mp H
    obtain ⟨t911, A50, H⟩ := H
    replace H : (if t911 = true then ((bonsairef04_Few.f k l1 60 60).bind fun t912 => (if t912 = true then (bonsailaw08_DictTells.j0 k l0 l1 l2 (decide ((l2.length : Int) > 60))) else (bonsailaw08_DictTells.j0 k l0 l1 l2 true))) else (bonsailaw08_DictTells.j0 k l0 l1 l2 true)) = some r := H
    have A5 := Aside0.mk A50
    clear A50
    by_cases c6 : t911 = true
    · subst c6
      have H1 : ((bonsairef04_Few.f k l1 60 60).bind fun t912 => (if t912 = true then (bonsailaw08_DictTells.j0 k l0 l1 l2 (decide ((l2.length : Int) > 60))) else (bonsailaw08_DictTells.j0 k l0 l1 l2 true))) = some r := by rw [if_pos rfl] at H; exact H
      clear H
      have H := H1
      clear H1
      replace H := Option.bind_eq_some_iff.mp H
      obtain ⟨t912, A70, H⟩ := H
      replace H : (if t912 = true then (bonsailaw08_DictTells.j0 k l0 l1 l2 (decide ((l2.length : Int) > 60))) else (bonsailaw08_DictTells.j0 k l0 l1 l2 true)) = some r := H
      have A7 := Aside0.mk A70
      clear A70
      by_cases c8 : t912 = true
      · subst c8
        have H1 : (bonsailaw08_DictTells.j0 k l0 l1 l2 (decide ((l2.length : Int) > 60))) = some r := by rw [if_pos rfl] at H; exact H
        clear H
        have H := H1
        clear H1
        have H' := Aside0.mk H
        clear H
        go_wp2_with (first | ((with_reducible refine gate_callee (f := 37) rfl ?_); refine goesL_ (some 16) rfl rfl Try.func37 (by kernel_rfl) rfl #[.slice A0 l0.length c0, .int .i64 60, .int .i64 60] rfl (by (try simp only [List.map_toArray, List.map_cons, List.map_nil]); first | done | rfl | (simp only [List.length_drop, List.length_take]; rfl)) ?_; (with_reducible refine (bonsairef04_Few.calls k _ _ l0 60 60 true _ ?side1 ?side2 A5.out).mono ?_); (case side1 => repeat (first | exact (Kd.C_below HR0.out HB.out) | (with_reducible refine Kd.C_alloc ?_ _) | (with_reducible refine Kd.C_drewN ?_ _) | (with_reducible refine Kd.C_drew ?_))); (case side2 => exact HC0.out); rintro e w' ⟨rfl, ⟨nd, rfl⟩⟩; refine ⟨_, rfl, ?_⟩) | (go_at_call 37; (with_reducible refine (bonsairef04_Few.calls k _ _ l1 60 60 true _ ?side1 ?side2 A7.out).mono ?_); (case side1 => repeat (first | exact (Kd.C_below HR1.out (by repeat (first | (with_reducible first | exact HB.out | apply below_alloc | apply pw_below_drewN | apply below_drew1) | exact HB.out))) | (with_reducible refine Kd.C_alloc ?_ _) | (with_reducible refine Kd.C_drewN ?_ _) | (with_reducible refine Kd.C_drew ?_))); (case side2 => exact HC1.out); rintro e w' ⟨rfl, ⟨nd, rfl⟩⟩))
        go_meet
        case rel => exact ⟨_, (decide ((l2.length : Int) > 60)), (by first | rfl | (simp; done) | (simp [*]; done)), H', ⟨by first | omega | exact Nat.le_refl _⟩, ⟨by repeat (first | (with_reducible first | exact HB.out | apply below_alloc | apply pw_below_drewN | apply below_drew1) | exact HB.out)⟩⟩
      · replace c8 := Bool.eq_false_iff.mpr c8
        subst c8
        have H1 : (bonsailaw08_DictTells.j0 k l0 l1 l2 true) = some r := by rw [if_neg (show ¬ (false = true) by decide)] at H; exact H
        clear H
        have H := H1
        clear H1
        have H' := Aside0.mk H
        clear H
        go_wp2_with (first | ((with_reducible refine gate_callee (f := 37) rfl ?_); refine goesL_ (some 16) rfl rfl Try.func37 (by kernel_rfl) rfl #[.slice A0 l0.length c0, .int .i64 60, .int .i64 60] rfl (by (try simp only [List.map_toArray, List.map_cons, List.map_nil]); first | done | rfl | (simp only [List.length_drop, List.length_take]; rfl)) ?_; (with_reducible refine (bonsairef04_Few.calls k _ _ l0 60 60 true _ ?side1 ?side2 A5.out).mono ?_); (case side1 => repeat (first | exact (Kd.C_below HR0.out HB.out) | (with_reducible refine Kd.C_alloc ?_ _) | (with_reducible refine Kd.C_drewN ?_ _) | (with_reducible refine Kd.C_drew ?_))); (case side2 => exact HC0.out); rintro e w' ⟨rfl, ⟨nd, rfl⟩⟩; refine ⟨_, rfl, ?_⟩) | (go_at_call 37; (with_reducible refine (bonsairef04_Few.calls k _ _ l1 60 60 false _ ?side1 ?side2 A7.out).mono ?_); (case side1 => repeat (first | exact (Kd.C_below HR1.out (by repeat (first | (with_reducible first | exact HB.out | apply below_alloc | apply pw_below_drewN | apply below_drew1) | exact HB.out))) | (with_reducible refine Kd.C_alloc ?_ _) | (with_reducible refine Kd.C_drewN ?_ _) | (with_reducible refine Kd.C_drew ?_))); (case side2 => exact HC1.out); rintro e w' ⟨rfl, ⟨nd, rfl⟩⟩))
        go_meet
        case rel => exact ⟨_, (true), (by first | rfl | (simp; done) | (simp [*]; done)), H', ⟨by first | omega | exact Nat.le_refl _⟩, ⟨by repeat (first | (with_reducible first | exact HB.out | apply below_alloc | apply pw_below_drewN | apply below_drew1) | exact HB.out)⟩⟩
    · replace c6 := Bool.eq_false_iff.mpr c6
      subst c6
      have H1 : (bonsailaw08_DictTells.j0 k l0 l1 l2 true) = some r := by rw [if_neg (show ¬ (false = true) by decide)] at H; exact H
      clear H
      have H := H1
      clear H1
      have H' := Aside0.mk H
      clear H
      go_wp2_with (first | ((with_reducible refine gate_callee (f := 37) rfl ?_); refine goesL_ (some 16) rfl rfl Try.func37 (by kernel_rfl) rfl #[.slice A0 l0.length c0, .int .i64 60, .int .i64 60] rfl (by (try simp only [List.map_toArray, List.map_cons, List.map_nil]); first | done | rfl | (simp only [List.length_drop, List.length_take]; rfl)) ?_; (with_reducible refine (bonsairef04_Few.calls k _ _ l0 60 60 false _ ?side1 ?side2 A5.out).mono ?_); (case side1 => repeat (first | exact (Kd.C_below HR0.out HB.out) | (with_reducible refine Kd.C_alloc ?_ _) | (with_reducible refine Kd.C_drewN ?_ _) | (with_reducible refine Kd.C_drew ?_))); (case side2 => exact HC0.out); rintro e w' ⟨rfl, ⟨nd, rfl⟩⟩; refine ⟨_, rfl, ?_⟩))
      go_meet
      case rel => exact ⟨_, (true), (by first | rfl | (simp; done) | (simp [*]; done)), H', ⟨by first | omega | exact Nat.le_refl _⟩, ⟨by repeat (first | (with_reducible first | exact HB.out | apply below_alloc | apply pw_below_drewN | apply below_drew1) | exact HB.out)⟩⟩
  case rest =>
    clear HC4
    try clear c1
    try clear c2
    try clear p2
    try clear c3
    try clear c6
    try clear c8
    obtain ⟨kq, x27_3, rfl, HA, HJ3, HB⟩ := hcut
    cases kq with
    | zero => exact absurd HA.out (by simp [bonsailaw08_DictTells.j0])
    | succ kj3 =>
      have H := HA.out
      clear HA
      simp only [bonsailaw08_DictTells.j0] at H
      by_cases c9 : x27_3 = true
      · subst c9
        have H1 : ((bonsailaw08_live.f kj3).bind fun t913 => (some t913)) = some r := by rw [if_pos rfl] at H; exact H
        clear H
        have H := H1
        clear H1
        replace H := Option.bind_eq_some_iff.mp H
        obtain ⟨t913, A100, H⟩ := H
        replace H : (some t913) = some r := H
        have A10 := Aside0.mk A100
        clear A100
        obtain rfl := Option.some.inj H
        go_wp2_with (first | ((with_reducible refine gate_callee (f := 64) rfl ?_); refine goesL_ (some 28) rfl rfl Try.func64 (by kernel_rfl) rfl #[] rfl (by (try simp only [List.map_toArray, List.map_cons, List.map_nil]); first | done | rfl | (simp only [List.length_drop, List.length_take]; rfl)) ?_; (with_reducible refine (bonsailaw08_live.calls kj3  t913 _ A10.out).mono ?_); rintro e w11 ⟨rfl, hb⟩; refine ⟨_, rfl, ?_⟩; have n0_ := Aside0.mk (below_step (by repeat (first | (with_reducible first | exact HB.out | apply below_alloc | apply pw_below_drewN | apply below_drew1) | exact HB.out)) hb); clear HB; have HB := n0_; clear n0_; (try clear hb); (try clear hb2); (try clear hk); (try clear hi)))
        go_ret
        exact ⟨by first | rfl | (simp [errW_none, errW_some] <;> rfl) | (simp [*, errW_none, errW_some] <;> rfl), by repeat (first | (with_reducible first | exact HB.out | apply below_alloc | apply pw_below_drewN | apply below_drew1) | exact HB.out)⟩
      · replace c9 := Bool.eq_false_iff.mpr c9
        subst c9
        have H1 : ((dict_Words.f l0).bind fun bt914 => ((bonsairef08_Words.f kj3 l0).bind fun bt920 => ((dict_Pick.f l1 l2).bind fun bt926 => ((bonsairef08_Pick.f kj3 l1 l2).bind fun bt930 => ((bonsairef04_Same.f kj3 bt914.1 bt920.1).bind fun t934 => (if t934 = true then ((bonsairef06_Same.f kj3 bt914.2 bt920.2).bind fun t935 => (if t935 = true then ((dict_Encode.f kj3 l0).bind fun t936 => ((bonsairef08_Encode.f kj3 l0).bind fun t937 => (if t936.toList = t937.toList then ((bonsairef04_Same.f kj3 bt926.1 bt930.1).bind fun t938 => (if t938 = true then (if (bt926.2 == bt930.2) = true then ((dict_May.f l1 l2).bind fun t939 => ((bonsairef08_May.f kj3 l1 l2).bind fun t940 => (if (t939 == t940) = true then ((bonsailaw08_live.f kj3).bind fun t941 => (some t941)) else (none)))) else (none)) else (none))) else (none)))) else (none))) else (none))))))) = some r := by rw [if_neg (show ¬ (false = true) by decide)] at H; exact H
        clear H
        have H := H1
        clear H1
        replace H := Option.bind_eq_some_iff.mp H
        obtain ⟨⟨t914, t915⟩, A120, H⟩ := H
        replace H : ((bonsairef08_Words.f kj3 l0).bind fun bt920 => ((dict_Pick.f l1 l2).bind fun bt926 => ((bonsairef08_Pick.f kj3 l1 l2).bind fun bt930 => ((bonsairef04_Same.f kj3 t914 bt920.1).bind fun t934 => (if t934 = true then ((bonsairef06_Same.f kj3 t915 bt920.2).bind fun t935 => (if t935 = true then ((dict_Encode.f kj3 l0).bind fun t936 => ((bonsairef08_Encode.f kj3 l0).bind fun t937 => (if t936.toList = t937.toList then ((bonsairef04_Same.f kj3 bt926.1 bt930.1).bind fun t938 => (if t938 = true then (if (bt926.2 == bt930.2) = true then ((dict_May.f l1 l2).bind fun t939 => ((bonsairef08_May.f kj3 l1 l2).bind fun t940 => (if (t939 == t940) = true then ((bonsailaw08_live.f kj3).bind fun t941 => (some t941)) else (none)))) else (none)) else (none))) else (none)))) else (none))) else (none)))))) = some r := H
        have A12 := Aside0.mk A120
        clear A120
        replace H := Option.bind_eq_some_iff.mp H
        obtain ⟨⟨t920, t921⟩, A130, H⟩ := H
        replace H : ((dict_Pick.f l1 l2).bind fun bt926 => ((bonsairef08_Pick.f kj3 l1 l2).bind fun bt930 => ((bonsairef04_Same.f kj3 t914 t920).bind fun t934 => (if t934 = true then ((bonsairef06_Same.f kj3 t915 t921).bind fun t935 => (if t935 = true then ((dict_Encode.f kj3 l0).bind fun t936 => ((bonsairef08_Encode.f kj3 l0).bind fun t937 => (if t936.toList = t937.toList then ((bonsairef04_Same.f kj3 bt926.1 bt930.1).bind fun t938 => (if t938 = true then (if (bt926.2 == bt930.2) = true then ((dict_May.f l1 l2).bind fun t939 => ((bonsairef08_May.f kj3 l1 l2).bind fun t940 => (if (t939 == t940) = true then ((bonsailaw08_live.f kj3).bind fun t941 => (some t941)) else (none)))) else (none)) else (none))) else (none)))) else (none))) else (none))))) = some r := H
        have A13 := Aside0.mk A130
        clear A130
        replace H := Option.bind_eq_some_iff.mp H
        obtain ⟨⟨t926, t927⟩, A140, H⟩ := H
        replace H : ((bonsairef08_Pick.f kj3 l1 l2).bind fun bt930 => ((bonsairef04_Same.f kj3 t914 t920).bind fun t934 => (if t934 = true then ((bonsairef06_Same.f kj3 t915 t921).bind fun t935 => (if t935 = true then ((dict_Encode.f kj3 l0).bind fun t936 => ((bonsairef08_Encode.f kj3 l0).bind fun t937 => (if t936.toList = t937.toList then ((bonsairef04_Same.f kj3 t926 bt930.1).bind fun t938 => (if t938 = true then (if (t927 == bt930.2) = true then ((dict_May.f l1 l2).bind fun t939 => ((bonsairef08_May.f kj3 l1 l2).bind fun t940 => (if (t939 == t940) = true then ((bonsailaw08_live.f kj3).bind fun t941 => (some t941)) else (none)))) else (none)) else (none))) else (none)))) else (none))) else (none)))) = some r := H
        have A14 := Aside0.mk A140
        clear A140
        replace H := Option.bind_eq_some_iff.mp H
        obtain ⟨⟨t930, t931⟩, A150, H⟩ := H
        replace H : ((bonsairef04_Same.f kj3 t914 t920).bind fun t934 => (if t934 = true then ((bonsairef06_Same.f kj3 t915 t921).bind fun t935 => (if t935 = true then ((dict_Encode.f kj3 l0).bind fun t936 => ((bonsairef08_Encode.f kj3 l0).bind fun t937 => (if t936.toList = t937.toList then ((bonsairef04_Same.f kj3 t926 t930).bind fun t938 => (if t938 = true then (if (t927 == t931) = true then ((dict_May.f l1 l2).bind fun t939 => ((bonsairef08_May.f kj3 l1 l2).bind fun t940 => (if (t939 == t940) = true then ((bonsailaw08_live.f kj3).bind fun t941 => (some t941)) else (none)))) else (none)) else (none))) else (none)))) else (none))) else (none))) = some r := H
        have A15 := Aside0.mk A150
        clear A150
        replace H := Option.bind_eq_some_iff.mp H
        obtain ⟨t934, A160, H⟩ := H
        replace H : (if t934 = true then ((bonsairef06_Same.f kj3 t915 t921).bind fun t935 => (if t935 = true then ((dict_Encode.f kj3 l0).bind fun t936 => ((bonsairef08_Encode.f kj3 l0).bind fun t937 => (if t936.toList = t937.toList then ((bonsairef04_Same.f kj3 t926 t930).bind fun t938 => (if t938 = true then (if (t927 == t931) = true then ((dict_May.f l1 l2).bind fun t939 => ((bonsairef08_May.f kj3 l1 l2).bind fun t940 => (if (t939 == t940) = true then ((bonsailaw08_live.f kj3).bind fun t941 => (some t941)) else (none)))) else (none)) else (none))) else (none)))) else (none))) else (none)) = some r := H
        have A16 := Aside0.mk A160
        clear A160
        by_cases c17 : t934 = true
        · subst c17
          have H1 : ((bonsairef06_Same.f kj3 t915 t921).bind fun t935 => (if t935 = true then ((dict_Encode.f kj3 l0).bind fun t936 => ((bonsairef08_Encode.f kj3 l0).bind fun t937 => (if t936.toList = t937.toList then ((bonsairef04_Same.f kj3 t926 t930).bind fun t938 => (if t938 = true then (if (t927 == t931) = true then ((dict_May.f l1 l2).bind fun t939 => ((bonsairef08_May.f kj3 l1 l2).bind fun t940 => (if (t939 == t940) = true then ((bonsailaw08_live.f kj3).bind fun t941 => (some t941)) else (none)))) else (none)) else (none))) else (none)))) else (none))) = some r := by rw [if_pos rfl] at H; exact H
          clear H
          have H := H1
          clear H1
          replace H := Option.bind_eq_some_iff.mp H
          obtain ⟨t935, A180, H⟩ := H
          replace H : (if t935 = true then ((dict_Encode.f kj3 l0).bind fun t936 => ((bonsairef08_Encode.f kj3 l0).bind fun t937 => (if t936.toList = t937.toList then ((bonsairef04_Same.f kj3 t926 t930).bind fun t938 => (if t938 = true then (if (t927 == t931) = true then ((dict_May.f l1 l2).bind fun t939 => ((bonsairef08_May.f kj3 l1 l2).bind fun t940 => (if (t939 == t940) = true then ((bonsailaw08_live.f kj3).bind fun t941 => (some t941)) else (none)))) else (none)) else (none))) else (none)))) else (none)) = some r := H
          have A18 := Aside0.mk A180
          clear A180
          by_cases c19 : t935 = true
          · subst c19
            have H1 : ((dict_Encode.f kj3 l0).bind fun t936 => ((bonsairef08_Encode.f kj3 l0).bind fun t937 => (if t936.toList = t937.toList then ((bonsairef04_Same.f kj3 t926 t930).bind fun t938 => (if t938 = true then (if (t927 == t931) = true then ((dict_May.f l1 l2).bind fun t939 => ((bonsairef08_May.f kj3 l1 l2).bind fun t940 => (if (t939 == t940) = true then ((bonsailaw08_live.f kj3).bind fun t941 => (some t941)) else (none)))) else (none)) else (none))) else (none)))) = some r := by rw [if_pos rfl] at H; exact H
            clear H
            have H := H1
            clear H1
            replace H := Option.bind_eq_some_iff.mp H
            obtain ⟨t936, A200, H⟩ := H
            replace H : ((bonsairef08_Encode.f kj3 l0).bind fun t937 => (if t936.toList = t937.toList then ((bonsairef04_Same.f kj3 t926 t930).bind fun t938 => (if t938 = true then (if (t927 == t931) = true then ((dict_May.f l1 l2).bind fun t939 => ((bonsairef08_May.f kj3 l1 l2).bind fun t940 => (if (t939 == t940) = true then ((bonsailaw08_live.f kj3).bind fun t941 => (some t941)) else (none)))) else (none)) else (none))) else (none))) = some r := H
            have A20 := Aside0.mk A200
            clear A200
            replace H := Option.bind_eq_some_iff.mp H
            obtain ⟨t937, A210, H⟩ := H
            replace H : (if t936.toList = t937.toList then ((bonsairef04_Same.f kj3 t926 t930).bind fun t938 => (if t938 = true then (if (t927 == t931) = true then ((dict_May.f l1 l2).bind fun t939 => ((bonsairef08_May.f kj3 l1 l2).bind fun t940 => (if (t939 == t940) = true then ((bonsailaw08_live.f kj3).bind fun t941 => (some t941)) else (none)))) else (none)) else (none))) else (none)) = some r := H
            have A21 := Aside0.mk A210
            clear A210
            by_cases c22 : t936.toList = t937.toList
            · rw [if_pos c22] at H
              have c22b0 : (t936.toList == t937.toList) = true := beq_iff_eq.mpr c22
              have c22b1 : (t936.toList != t937.toList) = false := bne_eq_false_iff_eq.mpr c22
              clear c22
              replace H := Option.bind_eq_some_iff.mp H
              obtain ⟨t938, A230, H⟩ := H
              replace H : (if t938 = true then (if (t927 == t931) = true then ((dict_May.f l1 l2).bind fun t939 => ((bonsairef08_May.f kj3 l1 l2).bind fun t940 => (if (t939 == t940) = true then ((bonsailaw08_live.f kj3).bind fun t941 => (some t941)) else (none)))) else (none)) else (none)) = some r := H
              have A23 := Aside0.mk A230
              clear A230
              by_cases c24 : t938 = true
              · subst c24
                have H1 : (if (t927 == t931) = true then ((dict_May.f l1 l2).bind fun t939 => ((bonsairef08_May.f kj3 l1 l2).bind fun t940 => (if (t939 == t940) = true then ((bonsailaw08_live.f kj3).bind fun t941 => (some t941)) else (none)))) else (none)) = some r := by rw [if_pos rfl] at H; exact H
                clear H
                have H := H1
                clear H1
                by_cases c25 : (t927 == t931) = true
                · rw [if_pos c25] at H
                  have c25b0 : (t927 == t931) = true := c25
                  (try (have c25b1 : decide (t927 = t931) = true := by simpa using c25))
                  (try (have c25b2 : (t927 == t931) = true := by simpa using c25))
                  clear c25
                  replace H := Option.bind_eq_some_iff.mp H
                  obtain ⟨t939, A260, H⟩ := H
                  replace H : ((bonsairef08_May.f kj3 l1 l2).bind fun t940 => (if (t939 == t940) = true then ((bonsailaw08_live.f kj3).bind fun t941 => (some t941)) else (none))) = some r := H
                  have A26 := Aside0.mk A260
                  clear A260
                  replace H := Option.bind_eq_some_iff.mp H
                  obtain ⟨t940, A270, H⟩ := H
                  replace H : (if (t939 == t940) = true then ((bonsailaw08_live.f kj3).bind fun t941 => (some t941)) else (none)) = some r := H
                  have A27 := Aside0.mk A270
                  clear A270
                  by_cases c28 : (t939 == t940) = true
                  · rw [if_pos c28] at H
                    have c28b0 : (t939 == t940) = true := c28
                    (try (have c28b1 : decide (t939 = t940) = true := by simpa using c28))
                    (try (have c28b2 : (t939 == t940) = true := by simpa using c28))
                    clear c28
                    replace H := Option.bind_eq_some_iff.mp H
                    obtain ⟨t941, A290, H⟩ := H
                    replace H : (some t941) = some r := H
                    have A29 := Aside0.mk A290
                    clear A290
                    obtain rfl := Option.some.inj H
                    go_wp2_with (first | ((with_reducible refine gate_callee (f := 65) rfl ?_); refine goesL_ (some 31) rfl rfl Try.func65 (by kernel_rfl) rfl #[.slice A0 l0.length c0] rfl (by (try simp only [List.map_toArray, List.map_cons, List.map_nil]); first | done | rfl | (simp only [List.length_drop, List.length_take]; rfl)) ?_; (with_reducible refine (dict_Words.calls _ _ l0 t914 t915 _ ?side1 ?side2 A12.out).mono ?_); (case side1 => repeat (first | exact (Kd.C_below HR0.out HB.out) | (with_reducible refine Kd.C_alloc ?_ _) | (with_reducible refine Kd.C_drewN ?_ _) | (with_reducible refine Kd.C_drew ?_))); (case side2 => exact HC0.out); rintro e w30 ⟨v916, v918, rfl, ho0, ho1, hb⟩; refine ⟨_, rfl, ?_⟩; have n0_ := Aside0.mk (Kd.R_lower ho0 (below_size (by repeat (first | (with_reducible first | exact HB.out | apply below_alloc | apply pw_below_drewN | apply below_drew1) | exact HB.out)))); have n1_ := Aside0.mk (Kd.R_lower ho1 (below_size (by repeat (first | (with_reducible first | exact HB.out | apply below_alloc | apply pw_below_drewN | apply below_drew1) | exact HB.out)))); have n2_ := Aside0.mk (below_step (by repeat (first | (with_reducible first | exact HB.out | apply below_alloc | apply pw_below_drewN | apply below_drew1) | exact HB.out)) hb); clear HB; have HO917 := n0_; have HO919 := n1_; have HB := n2_; clear n0_ n1_ n2_; (try clear hb); (try clear hb2); (try clear hk); (try clear hi); (try clear ho0); (try clear ho1)) | ((with_reducible refine gate_callee (f := 66) rfl ?_); refine goesL_ (some 36) rfl rfl Try.func66 (by kernel_rfl) rfl #[.slice A0 l0.length c0] rfl (by (try simp only [List.map_toArray, List.map_cons, List.map_nil]); first | done | rfl | (simp only [List.length_drop, List.length_take]; rfl)) ?_; (with_reducible refine (bonsairef08_Words.calls kj3 _ _ l0 t920 t921 _ ?side1 ?side2 A13.out).mono ?_); (case side1 => repeat (first | exact (Kd.C_below HR0.out HB.out) | (with_reducible refine Kd.C_alloc ?_ _) | (with_reducible refine Kd.C_drewN ?_ _) | (with_reducible refine Kd.C_drew ?_))); (case side2 => exact HC0.out); rintro e w31 ⟨v922, v924, rfl, ho0, ho1, hb⟩; refine ⟨_, rfl, ?_⟩; have n0_ := Aside0.mk (Kd.R_elder' (by (with_reducible repeat (first | apply Kd.R_alloc | apply Kd.R_drewN | apply Kd.R_drew)); exact HO917.out) (Kd.R_base ho0) hb); have n1_ := Aside0.mk (Kd.R_elder' (by (with_reducible repeat (first | apply Kd.R_alloc | apply Kd.R_drewN | apply Kd.R_drew)); exact HO919.out) (Kd.R_base ho1) hb); have n2_ := Aside0.mk (Kd.R_lower (Kd.R_new' ho0 (Kd.R_lt (by (with_reducible repeat (first | apply Kd.R_alloc | apply Kd.R_drewN | apply Kd.R_drew)); exact HO917.out))) (below_size (by repeat (first | (with_reducible first | exact HB.out | apply below_alloc | apply pw_below_drewN | apply below_drew1) | exact HB.out)))); have n3_ := Aside0.mk (Kd.R_lower (Kd.R_new' ho1 (Kd.R_lt (by (with_reducible repeat (first | apply Kd.R_alloc | apply Kd.R_drewN | apply Kd.R_drew)); exact HO919.out))) (below_size (by repeat (first | (with_reducible first | exact HB.out | apply below_alloc | apply pw_below_drewN | apply below_drew1) | exact HB.out)))); have n4_ := Aside0.mk (below_step (by repeat (first | (with_reducible first | exact HB.out | apply below_alloc | apply pw_below_drewN | apply below_drew1) | exact HB.out)) hb); clear HO917; clear HO919; clear HB; have HO917 := n0_; have HO919 := n1_; have HO923 := n2_; have HO925 := n3_; have HB := n4_; clear n0_ n1_ n2_ n3_ n4_; (try clear hb); (try clear hb2); (try clear hk); (try clear hi); (try clear ho0); (try clear ho1)) | ((with_reducible refine gate_callee (f := 67) rfl ?_); refine goesL_ (some 42) rfl rfl Try.func67 (by kernel_rfl) rfl #[.slice A1 l1.length c1, .slice A2 l2.length c2] rfl (by (try simp only [List.map_toArray, List.map_cons, List.map_nil]); first | done | rfl | (simp only [List.length_drop, List.length_take]; rfl)) ?_; (with_reducible refine (dict_Pick.calls _ _ l1 _ _ l2 t926 t927 _ ?side1 ?side2 ?side3 ?side4 A14.out).mono ?_); (case side1 => repeat (first | exact (Kd.C_below HR1.out HB.out) | (with_reducible refine Kd.C_alloc ?_ _) | (with_reducible refine Kd.C_drewN ?_ _) | (with_reducible refine Kd.C_drew ?_))); (case side2 => exact HC1.out); (case side3 => repeat (first | exact (Kd.C_below HR2.out HB.out) | (with_reducible refine Kd.C_alloc ?_ _) | (with_reducible refine Kd.C_drewN ?_ _) | (with_reducible refine Kd.C_drew ?_))); (case side4 => exact HC2.out); rintro e w32 ⟨v928, rfl, ho0, hb⟩; refine ⟨_, rfl, ?_⟩; have n0_ := Aside0.mk (Kd.R_elder' (by (with_reducible repeat (first | apply Kd.R_alloc | apply Kd.R_drewN | apply Kd.R_drew)); exact HO917.out) (Kd.R_base ho0) hb); have n1_ := Aside0.mk (Kd.R_below (by (with_reducible repeat (first | apply Kd.R_alloc | apply Kd.R_drewN | apply Kd.R_drew)); exact HO919.out) hb); have n2_ := Aside0.mk (Kd.R_elder' (by (with_reducible repeat (first | apply Kd.R_alloc | apply Kd.R_drewN | apply Kd.R_drew)); exact HO923.out) (Kd.R_base ho0) hb); have n3_ := Aside0.mk (Kd.R_below (by (with_reducible repeat (first | apply Kd.R_alloc | apply Kd.R_drewN | apply Kd.R_drew)); exact HO925.out) hb); have n4_ := Aside0.mk (Kd.R_lower (Kd.R_new' (Kd.R_new' ho0 (Kd.R_lt (by (with_reducible repeat (first | apply Kd.R_alloc | apply Kd.R_drewN | apply Kd.R_drew)); exact HO917.out))) (Kd.R_lt (by (with_reducible repeat (first | apply Kd.R_alloc | apply Kd.R_drewN | apply Kd.R_drew)); exact HO923.out))) (below_size (by repeat (first | (with_reducible first | exact HB.out | apply below_alloc | apply pw_below_drewN | apply below_drew1) | exact HB.out)))); have n5_ := Aside0.mk (below_step (by repeat (first | (with_reducible first | exact HB.out | apply below_alloc | apply pw_below_drewN | apply below_drew1) | exact HB.out)) hb); clear HO917; clear HO919; clear HO923; clear HO925; clear HB; have HO917 := n0_; have HO919 := n1_; have HO923 := n2_; have HO925 := n3_; have HO929 := n4_; have HB := n5_; clear n0_ n1_ n2_ n3_ n4_ n5_; (try clear hb); (try clear hb2); (try clear hk); (try clear hi); (try clear ho0)) | ((with_reducible refine gate_callee (f := 68) rfl ?_); refine goesL_ (some 48) rfl rfl Try.func68 (by kernel_rfl) rfl #[.slice A1 l1.length c1, .slice A2 l2.length c2] rfl (by (try simp only [List.map_toArray, List.map_cons, List.map_nil]); first | done | rfl | (simp only [List.length_drop, List.length_take]; rfl)) ?_; (with_reducible refine (bonsairef08_Pick.calls kj3 _ _ l1 _ _ l2 t930 t931 _ ?side1 ?side2 ?side3 ?side4 A15.out).mono ?_); (case side1 => repeat (first | exact (Kd.C_below HR1.out HB.out) | (with_reducible refine Kd.C_alloc ?_ _) | (with_reducible refine Kd.C_drewN ?_ _) | (with_reducible refine Kd.C_drew ?_))); (case side2 => exact HC1.out); (case side3 => repeat (first | exact (Kd.C_below HR2.out HB.out) | (with_reducible refine Kd.C_alloc ?_ _) | (with_reducible refine Kd.C_drewN ?_ _) | (with_reducible refine Kd.C_drew ?_))); (case side4 => exact HC2.out); rintro e w33 ⟨v932, rfl, ho0, hb⟩; refine ⟨_, rfl, ?_⟩; have n0_ := Aside0.mk (Kd.R_elder' (by (with_reducible repeat (first | apply Kd.R_alloc | apply Kd.R_drewN | apply Kd.R_drew)); exact HO917.out) (Kd.R_base ho0) hb); have n1_ := Aside0.mk (Kd.R_below (by (with_reducible repeat (first | apply Kd.R_alloc | apply Kd.R_drewN | apply Kd.R_drew)); exact HO919.out) hb); have n2_ := Aside0.mk (Kd.R_elder' (by (with_reducible repeat (first | apply Kd.R_alloc | apply Kd.R_drewN | apply Kd.R_drew)); exact HO923.out) (Kd.R_base ho0) hb); have n3_ := Aside0.mk (Kd.R_below (by (with_reducible repeat (first | apply Kd.R_alloc | apply Kd.R_drewN | apply Kd.R_drew)); exact HO925.out) hb); have n4_ := Aside0.mk (Kd.R_elder' (by (with_reducible repeat (first | apply Kd.R_alloc | apply Kd.R_drewN | apply Kd.R_drew)); exact HO929.out) (Kd.R_base ho0) hb); have n5_ := Aside0.mk (Kd.R_lower (Kd.R_new' (Kd.R_new' (Kd.R_new' ho0 (Kd.R_lt (by (with_reducible repeat (first | apply Kd.R_alloc | apply Kd.R_drewN | apply Kd.R_drew)); exact HO917.out))) (Kd.R_lt (by (with_reducible repeat (first | apply Kd.R_alloc | apply Kd.R_drewN | apply Kd.R_drew)); exact HO923.out))) (Kd.R_lt (by (with_reducible repeat (first | apply Kd.R_alloc | apply Kd.R_drewN | apply Kd.R_drew)); exact HO929.out))) (below_size (by repeat (first | (with_reducible first | exact HB.out | apply below_alloc | apply pw_below_drewN | apply below_drew1) | exact HB.out)))); have n6_ := Aside0.mk (below_step (by repeat (first | (with_reducible first | exact HB.out | apply below_alloc | apply pw_below_drewN | apply below_drew1) | exact HB.out)) hb); clear HO917; clear HO919; clear HO923; clear HO925; clear HO929; clear HB; have HO917 := n0_; have HO919 := n1_; have HO923 := n2_; have HO925 := n3_; have HO929 := n4_; have HO933 := n5_; have HB := n6_; clear n0_ n1_ n2_ n3_ n4_ n5_ n6_; (try clear hb); (try clear hb2); (try clear hk); (try clear hi); (try clear ho0); obtain ⟨Ao34, co34, eo34⟩ := Kd.R_slice HO917.out; subst eo34; obtain ⟨Ao35, co35, eo35⟩ := Kd.R_slice HO923.out; subst eo35) | ((with_reducible refine gate_callee (f := 69) rfl ?_); refine goesL_ (some 53) rfl rfl Try.func69 (by kernel_rfl) rfl #[.slice Ao34 t914.length co34, .slice Ao35 t920.length co35] rfl (by (try simp only [List.map_toArray, List.map_cons, List.map_nil]); first | done | rfl | (simp only [List.length_drop, List.length_take]; rfl)) ?_; (with_reducible refine (bonsairef04_Same.calls kj3 _ _ t914 _ _ t920 true _ ?side1 ?side2 ?side3 ?side4 A16.out).mono ?_); (case side1 => repeat (first | exact (Kd.R_reads' HO917.out).2.2 | (with_reducible refine Kd.C_alloc ?_ _) | (with_reducible refine Kd.C_drewN ?_ _) | (with_reducible refine Kd.C_drew ?_))); (case side2 => exact (Kd.R_reads' HO917.out).2.1); (case side3 => repeat (first | exact (Kd.R_reads' HO923.out).2.2 | (with_reducible refine Kd.C_alloc ?_ _) | (with_reducible refine Kd.C_drewN ?_ _) | (with_reducible refine Kd.C_drew ?_))); (case side4 => exact (Kd.R_reads' HO923.out).2.1); rintro e w' ⟨rfl, ⟨nd, rfl⟩⟩; refine ⟨_, rfl, ?_⟩; obtain ⟨Ao36, co36, eo36⟩ := Kd.R_slice HO919.out; subst eo36; obtain ⟨Ao37, co37, eo37⟩ := Kd.R_slice HO925.out; subst eo37) | (go_at_call 48; (with_reducible refine (bonsairef06_Same.calls kj3 _ _ t915 _ _ t921 true _ ?side1 ?side2 ?side3 ?side4 A18.out).mono ?_); (case side1 => repeat (first | exact (Kd.R_reads' HO919.out).2.2 | (with_reducible refine Kd.C_alloc ?_ _) | (with_reducible refine Kd.C_drewN ?_ _) | (with_reducible refine Kd.C_drew ?_))); (case side2 => exact (Kd.R_reads' HO919.out).2.1); (case side3 => repeat (first | exact (Kd.R_reads' HO925.out).2.2 | (with_reducible refine Kd.C_alloc ?_ _) | (with_reducible refine Kd.C_drewN ?_ _) | (with_reducible refine Kd.C_drew ?_))); (case side4 => exact (Kd.R_reads' HO925.out).2.1); rintro e w' ⟨rfl, ⟨nd, rfl⟩⟩) | (go_at_call 70; (with_reducible refine (dict_Encode.calls kj3 _ _ l0 t936 _ ?side1 ?side2 A20.out).mono ?_); (case side1 => repeat (first | exact (Kd.C_below HR0.out (by repeat (first | (with_reducible first | exact HB.out | apply below_alloc | apply pw_below_drewN | apply below_drew1) | exact HB.out))) | (with_reducible refine Kd.C_alloc ?_ _) | (with_reducible refine Kd.C_drewN ?_ _) | (with_reducible refine Kd.C_drew ?_))); (case side2 => exact HC0.out); rintro e w38 ⟨rfl, hb⟩; have n0_ := Aside0.mk (Kd.R_below (by (with_reducible repeat (first | apply Kd.R_alloc | apply Kd.R_drewN | apply Kd.R_drew)); exact HO917.out) hb); have n1_ := Aside0.mk (Kd.R_below (by (with_reducible repeat (first | apply Kd.R_alloc | apply Kd.R_drewN | apply Kd.R_drew)); exact HO919.out) hb); have n2_ := Aside0.mk (Kd.R_below (by (with_reducible repeat (first | apply Kd.R_alloc | apply Kd.R_drewN | apply Kd.R_drew)); exact HO923.out) hb); have n3_ := Aside0.mk (Kd.R_below (by (with_reducible repeat (first | apply Kd.R_alloc | apply Kd.R_drewN | apply Kd.R_drew)); exact HO925.out) hb); have n4_ := Aside0.mk (Kd.R_below (by (with_reducible repeat (first | apply Kd.R_alloc | apply Kd.R_drewN | apply Kd.R_drew)); exact HO929.out) hb); have n5_ := Aside0.mk (Kd.R_below (by (with_reducible repeat (first | apply Kd.R_alloc | apply Kd.R_drewN | apply Kd.R_drew)); exact HO933.out) hb); have n6_ := Aside0.mk (below_step (by repeat (first | (with_reducible first | exact HB.out | apply below_alloc | apply pw_below_drewN | apply below_drew1) | exact HB.out)) hb); clear HO917; clear HO919; clear HO923; clear HO925; clear HO929; clear HO933; clear HB; have HO917 := n0_; have HO919 := n1_; have HO923 := n2_; have HO925 := n3_; have HO929 := n4_; have HO933 := n5_; have HB := n6_; clear n0_ n1_ n2_ n3_ n4_ n5_ n6_; (try clear hb); (try clear hb2); (try clear hk); (try clear hi)) | (go_at_call 71; (with_reducible refine (bonsairef08_Encode.calls kj3 _ _ l0 t937 _ ?side1 ?side2 A21.out).mono ?_); (case side1 => repeat (first | exact (Kd.C_below HR0.out HB.out) | (with_reducible refine Kd.C_alloc ?_ _) | (with_reducible refine Kd.C_drewN ?_ _) | (with_reducible refine Kd.C_drew ?_))); (case side2 => exact HC0.out); rintro e w39 ⟨rfl, hb⟩; have n0_ := Aside0.mk (Kd.R_below (by (with_reducible repeat (first | apply Kd.R_alloc | apply Kd.R_drewN | apply Kd.R_drew)); exact HO917.out) hb); have n1_ := Aside0.mk (Kd.R_below (by (with_reducible repeat (first | apply Kd.R_alloc | apply Kd.R_drewN | apply Kd.R_drew)); exact HO919.out) hb); have n2_ := Aside0.mk (Kd.R_below (by (with_reducible repeat (first | apply Kd.R_alloc | apply Kd.R_drewN | apply Kd.R_drew)); exact HO923.out) hb); have n3_ := Aside0.mk (Kd.R_below (by (with_reducible repeat (first | apply Kd.R_alloc | apply Kd.R_drewN | apply Kd.R_drew)); exact HO925.out) hb); have n4_ := Aside0.mk (Kd.R_below (by (with_reducible repeat (first | apply Kd.R_alloc | apply Kd.R_drewN | apply Kd.R_drew)); exact HO929.out) hb); have n5_ := Aside0.mk (Kd.R_below (by (with_reducible repeat (first | apply Kd.R_alloc | apply Kd.R_drewN | apply Kd.R_drew)); exact HO933.out) hb); have n6_ := Aside0.mk (below_step (by repeat (first | (with_reducible first | exact HB.out | apply below_alloc | apply pw_below_drewN | apply below_drew1) | exact HB.out)) hb); clear HO917; clear HO919; clear HO923; clear HO925; clear HO929; clear HO933; clear HB; have HO917 := n0_; have HO919 := n1_; have HO923 := n2_; have HO925 := n3_; have HO929 := n4_; have HO933 := n5_; have HB := n6_; clear n0_ n1_ n2_ n3_ n4_ n5_ n6_; (try clear hb); (try clear hb2); (try clear hk); (try clear hi); obtain ⟨Ao40, co40, eo40⟩ := Kd.R_slice HO929.out; subst eo40; obtain ⟨Ao41, co41, eo41⟩ := Kd.R_slice HO933.out; subst eo41) | (go_at_call 69; (with_reducible refine (bonsairef04_Same.calls kj3 _ _ t926 _ _ t930 true _ ?side1 ?side2 ?side3 ?side4 A23.out).mono ?_); (case side1 => repeat (first | exact (Kd.R_reads' HO929.out).2.2 | (with_reducible refine Kd.C_alloc ?_ _) | (with_reducible refine Kd.C_drewN ?_ _) | (with_reducible refine Kd.C_drew ?_))); (case side2 => exact (Kd.R_reads' HO929.out).2.1); (case side3 => repeat (first | exact (Kd.R_reads' HO933.out).2.2 | (with_reducible refine Kd.C_alloc ?_ _) | (with_reducible refine Kd.C_drewN ?_ _) | (with_reducible refine Kd.C_drew ?_))); (case side4 => exact (Kd.R_reads' HO933.out).2.1); rintro e w' ⟨rfl, ⟨nd, rfl⟩⟩) | (go_at_call 72; (with_reducible refine (dict_May.calls _ _ l1 _ _ l2 t939 _ ?side1 ?side2 ?side3 ?side4 A26.out).mono ?_); (case side1 => repeat (first | exact (Kd.C_below HR1.out (by repeat (first | (with_reducible first | exact HB.out | apply below_alloc | apply pw_below_drewN | apply below_drew1) | exact HB.out))) | (with_reducible refine Kd.C_alloc ?_ _) | (with_reducible refine Kd.C_drewN ?_ _) | (with_reducible refine Kd.C_drew ?_))); (case side2 => exact HC1.out); (case side3 => repeat (first | exact (Kd.C_below HR2.out (by repeat (first | (with_reducible first | exact HB.out | apply below_alloc | apply pw_below_drewN | apply below_drew1) | exact HB.out))) | (with_reducible refine Kd.C_alloc ?_ _) | (with_reducible refine Kd.C_drewN ?_ _) | (with_reducible refine Kd.C_drew ?_))); (case side4 => exact HC2.out); rintro e w42 ⟨rfl, hb⟩; have n0_ := Aside0.mk (Kd.R_below (by (with_reducible repeat (first | apply Kd.R_alloc | apply Kd.R_drewN | apply Kd.R_drew)); exact HO917.out) hb); have n1_ := Aside0.mk (Kd.R_below (by (with_reducible repeat (first | apply Kd.R_alloc | apply Kd.R_drewN | apply Kd.R_drew)); exact HO919.out) hb); have n2_ := Aside0.mk (Kd.R_below (by (with_reducible repeat (first | apply Kd.R_alloc | apply Kd.R_drewN | apply Kd.R_drew)); exact HO923.out) hb); have n3_ := Aside0.mk (Kd.R_below (by (with_reducible repeat (first | apply Kd.R_alloc | apply Kd.R_drewN | apply Kd.R_drew)); exact HO925.out) hb); have n4_ := Aside0.mk (Kd.R_below (by (with_reducible repeat (first | apply Kd.R_alloc | apply Kd.R_drewN | apply Kd.R_drew)); exact HO929.out) hb); have n5_ := Aside0.mk (Kd.R_below (by (with_reducible repeat (first | apply Kd.R_alloc | apply Kd.R_drewN | apply Kd.R_drew)); exact HO933.out) hb); have n6_ := Aside0.mk (below_step (by repeat (first | (with_reducible first | exact HB.out | apply below_alloc | apply pw_below_drewN | apply below_drew1) | exact HB.out)) hb); clear HO917; clear HO919; clear HO923; clear HO925; clear HO929; clear HO933; clear HB; have HO917 := n0_; have HO919 := n1_; have HO923 := n2_; have HO925 := n3_; have HO929 := n4_; have HO933 := n5_; have HB := n6_; clear n0_ n1_ n2_ n3_ n4_ n5_ n6_; (try clear hb); (try clear hb2); (try clear hk); (try clear hi)) | (go_at_call 73; (with_reducible refine (bonsairef08_May.calls kj3 _ _ l1 _ _ l2 t940 _ ?side1 ?side2 ?side3 ?side4 A27.out).mono ?_); (case side1 => repeat (first | exact (Kd.C_below HR1.out HB.out) | (with_reducible refine Kd.C_alloc ?_ _) | (with_reducible refine Kd.C_drewN ?_ _) | (with_reducible refine Kd.C_drew ?_))); (case side2 => exact HC1.out); (case side3 => repeat (first | exact (Kd.C_below HR2.out HB.out) | (with_reducible refine Kd.C_alloc ?_ _) | (with_reducible refine Kd.C_drewN ?_ _) | (with_reducible refine Kd.C_drew ?_))); (case side4 => exact HC2.out); rintro e w43 ⟨rfl, hb⟩; have n0_ := Aside0.mk (Kd.R_below (by (with_reducible repeat (first | apply Kd.R_alloc | apply Kd.R_drewN | apply Kd.R_drew)); exact HO917.out) hb); have n1_ := Aside0.mk (Kd.R_below (by (with_reducible repeat (first | apply Kd.R_alloc | apply Kd.R_drewN | apply Kd.R_drew)); exact HO919.out) hb); have n2_ := Aside0.mk (Kd.R_below (by (with_reducible repeat (first | apply Kd.R_alloc | apply Kd.R_drewN | apply Kd.R_drew)); exact HO923.out) hb); have n3_ := Aside0.mk (Kd.R_below (by (with_reducible repeat (first | apply Kd.R_alloc | apply Kd.R_drewN | apply Kd.R_drew)); exact HO925.out) hb); have n4_ := Aside0.mk (Kd.R_below (by (with_reducible repeat (first | apply Kd.R_alloc | apply Kd.R_drewN | apply Kd.R_drew)); exact HO929.out) hb); have n5_ := Aside0.mk (Kd.R_below (by (with_reducible repeat (first | apply Kd.R_alloc | apply Kd.R_drewN | apply Kd.R_drew)); exact HO933.out) hb); have n6_ := Aside0.mk (below_step (by repeat (first | (with_reducible first | exact HB.out | apply below_alloc | apply pw_below_drewN | apply below_drew1) | exact HB.out)) hb); clear HO917; clear HO919; clear HO923; clear HO925; clear HO929; clear HO933; clear HB; have HO917 := n0_; have HO919 := n1_; have HO923 := n2_; have HO925 := n3_; have HO929 := n4_; have HO933 := n5_; have HB := n6_; clear n0_ n1_ n2_ n3_ n4_ n5_ n6_; (try clear hb); (try clear hb2); (try clear hk); (try clear hi)) | (go_at_call 64; (with_reducible refine (bonsailaw08_live.calls kj3  t941 _ A29.out).mono ?_); rintro e w44 ⟨rfl, hb⟩; have n0_ := Aside0.mk (Kd.R_below (by (with_reducible repeat (first | apply Kd.R_alloc | apply Kd.R_drewN | apply Kd.R_drew)); exact HO917.out) hb); have n1_ := Aside0.mk (Kd.R_below (by (with_reducible repeat (first | apply Kd.R_alloc | apply Kd.R_drewN | apply Kd.R_drew)); exact HO919.out) hb); have n2_ := Aside0.mk (Kd.R_below (by (with_reducible repeat (first | apply Kd.R_alloc | apply Kd.R_drewN | apply Kd.R_drew)); exact HO923.out) hb); have n3_ := Aside0.mk (Kd.R_below (by (with_reducible repeat (first | apply Kd.R_alloc | apply Kd.R_drewN | apply Kd.R_drew)); exact HO925.out) hb); have n4_ := Aside0.mk (Kd.R_below (by (with_reducible repeat (first | apply Kd.R_alloc | apply Kd.R_drewN | apply Kd.R_drew)); exact HO929.out) hb); have n5_ := Aside0.mk (Kd.R_below (by (with_reducible repeat (first | apply Kd.R_alloc | apply Kd.R_drewN | apply Kd.R_drew)); exact HO933.out) hb); have n6_ := Aside0.mk (below_step (by repeat (first | (with_reducible first | exact HB.out | apply below_alloc | apply pw_below_drewN | apply below_drew1) | exact HB.out)) hb); clear HO917; clear HO919; clear HO923; clear HO925; clear HO929; clear HO933; clear HB; have HO917 := n0_; have HO919 := n1_; have HO923 := n2_; have HO925 := n3_; have HO929 := n4_; have HO933 := n5_; have HB := n6_; clear n0_ n1_ n2_ n3_ n4_ n5_ n6_; (try clear hb); (try clear hb2); (try clear hk); (try clear hi)))
                    go_ret
                    exact ⟨by first | rfl | (simp [errW_none, errW_some] <;> rfl) | (simp [*, errW_none, errW_some] <;> rfl), by repeat (first | (with_reducible first | exact HB.out | apply below_alloc | apply pw_below_drewN | apply below_drew1) | exact HB.out)⟩
                  · rw [if_neg c28] at H
                    exact absurd H (by simp)
                · rw [if_neg c25] at H
                  exact absurd H (by simp)
              · replace c24 := Bool.eq_false_iff.mpr c24
                subst c24
                have H1 : (none) = some r := by rw [if_neg (show ¬ (false = true) by decide)] at H; exact H
                clear H
                have H := H1
                clear H1
                exact absurd H (by simp)
            · rw [if_neg c22] at H
              exact absurd H (by simp)
          · replace c19 := Bool.eq_false_iff.mpr c19
            subst c19
            have H1 : (none) = some r := by rw [if_neg (show ¬ (false = true) by decide)] at H; exact H
            clear H
            have H := H1
            clear H1
            exact absurd H (by simp)
        · replace c17 := Bool.eq_false_iff.mpr c17
          subst c17
          have H1 : (none) = some r := by rw [if_neg (show ¬ (false = true) by decide)] at H; exact H
          clear H
          have H := H1
          clear H1
          exact absurd H (by simp)
end Go.Proofs.Ytbgjoiccehiglaa.Print
end
namespace Go.Proofs.Ytbgjoiccehiglaa.Print
end Go.Proofs.Ytbgjoiccehiglaa.Print
section
namespace Go.Proofs.Ytbgjoiccehiglaa.LibK
open Go.RowKit Go.Proofs.Ytbgjoiccehiglaa.Print Go.Proofs.YtbgjoiccehiglaaW.PrintWords Go.Proofs.YtbgjoiccehiglaaW.PrintLast Go.Proofs.YtbgjoiccehiglaaW.PrintMore Go.Proofs.Ytbgjoiccehiglaa.LibU Go.Proofs.Ytbgjoiccehiglaa.LibV Go.Proofs.Ytbgjoiccehiglaa.LibW Go.Proofs.Ytbgjoiccehiglaa.LibX Go.Proofs.Ytbgjoiccehiglaa.LibY
theorem tl_eq (a b : ByteArray) : a.toList = b.toList ↔ a = b := by
  rw [ByteArray.toList_eq, ByteArray.toList_eq, Array.toList_inj]
  exact ⟨fun h => ByteArray.ext h, fun h => h ▸ rfl⟩
theorem dl_eq (a b : ByteArray) : a.data.toList = b.data.toList ↔ a = b := by
  rw [Array.toList_inj]
  exact ⟨fun h => ByteArray.ext h, fun h => h ▸ rfl⟩
theorem rd_txt {l : List ByteArray} {i : Nat} (h : i < l.length) : rdOf ByteArray.empty l (i : Int) = l[i] := by
  simp [rdOf, List.getD_eq_getElem?_getD, h]
theorem same4_l (a b : List ByteArray) (hl : (a.length : Int) ≤ 1000000000000) (hab : a.length = b.length) : ∀ (d k i : Nat), i + d = a.length → d + 1 ≤ k → bonsairef04_Same.l0 k a b (i : Int) = some (decide (a.drop i = b.drop i))
  | 0, k, i, hd, hk => by
    obtain ⟨k, rfl⟩ : ∃ k', k = k' + 1 := ⟨k - 1, by omega⟩
    unfold bonsairef04_Same.l0
    rw [if_neg (by omega), List.drop_eq_nil_of_le (by omega), List.drop_eq_nil_of_le (by omega)]
    simp
  | d + 1, k, i, hd, hk => by
    obtain ⟨k, rfl⟩ : ∃ k', k = k' + 1 := ⟨k - 1, by omega⟩
    have hi : i < a.length := by omega
    have hj : i < b.length := by omega
    unfold bonsairef04_Same.l0
    rw [if_pos (by omega), if_pos (by omega), if_pos (by omega), rd_txt hi, rd_txt hj, w64 (by omega) (by omega), show (i : Int) + 1 = ((i + 1 : Nat) : Int) by omega]
    rw [same4_l a b hl hab d k (i + 1) (by omega) (by omega)]
    have e : a.drop i = b.drop i ↔ a[i] = b[i] ∧ a.drop (i + 1) = b.drop (i + 1) := by rw [List.drop_eq_getElem_cons hi, List.drop_eq_getElem_cons hj, List.cons.injEq]
    by_cases h : a[i] = b[i]
    · rw [if_pos ((tl_eq _ _).mpr h)]
      congr 1
      rw [decide_eq_decide, e]
      exact ⟨fun h' => ⟨h, h'⟩, fun h' => h'.2⟩
    · rw [if_neg (fun h' => h ((tl_eq _ _).mp h'))]
      congr 1
      symm
      rw [decide_eq_false_iff_not, e]
      exact fun h' => h h'.1
theorem same4 (a b : List ByteArray) (hl : (a.length : Int) ≤ 1000000000000) (k : Nat) (hk : a.length + 1 ≤ k) : bonsairef04_Same.f k a b = some (decide (a = b)) := by
  unfold bonsairef04_Same.f
  by_cases h : a.length = b.length
  · rw [if_pos (by omega)]
    have := same4_l a b hl h a.length k 0 (by omega) (by omega)
    simpa using this
  · rw [if_neg (by omega)]
    have : a ≠ b := fun e => h (by rw [e])
    simp [this]
theorem same6_l (a b : List Int) (hl : (a.length : Int) ≤ 1000000000000) (hab : a.length = b.length) : ∀ (d k i : Nat), i + d = a.length → d + 1 ≤ k → bonsairef06_Same.l0 k a b (i : Int) = some (decide (a.drop i = b.drop i))
  | 0, k, i, hd, hk => by
    obtain ⟨k, rfl⟩ : ∃ k', k = k' + 1 := ⟨k - 1, by omega⟩
    unfold bonsairef06_Same.l0
    rw [if_neg (by omega), List.drop_eq_nil_of_le (by omega), List.drop_eq_nil_of_le (by omega)]
    simp
  | d + 1, k, i, hd, hk => by
    obtain ⟨k, rfl⟩ : ∃ k', k = k' + 1 := ⟨k - 1, by omega⟩
    have hi : i < a.length := by omega
    have hj : i < b.length := by omega
    unfold bonsairef06_Same.l0
    rw [if_pos (by omega), if_pos (by omega), if_pos (by omega), rd_at a i hi, rd_at b i hj, w64 (by omega) (by omega), show (i : Int) + 1 = ((i + 1 : Nat) : Int) by omega]
    rw [same6_l a b hl hab d k (i + 1) (by omega) (by omega)]
    have e : a.drop i = b.drop i ↔ a[i] = b[i] ∧ a.drop (i + 1) = b.drop (i + 1) := by rw [List.drop_eq_getElem_cons hi, List.drop_eq_getElem_cons hj, List.cons.injEq]
    by_cases h : a[i] = b[i]
    · rw [if_pos h]
      congr 1
      rw [decide_eq_decide, e]
      exact ⟨fun h' => ⟨h, h'⟩, fun h' => h'.2⟩
    · rw [if_neg h]
      congr 1
      symm
      rw [decide_eq_false_iff_not, e]
      exact fun h' => h h'.1
theorem same6 (a b : List Int) (hl : (a.length : Int) ≤ 1000000000000) (k : Nat) (hk : a.length + 1 ≤ k) : bonsairef06_Same.f k a b = some (decide (a = b)) := by
  unfold bonsairef06_Same.f
  by_cases h : a.length = b.length
  · rw [if_pos (by omega)]
    have := same6_l a b hl h a.length k 0 (by omega) (by omega)
    simpa using this
  · rw [if_neg (by omega)]
    have : a ≠ b := fun e => h (by rw [e])
    simp [this]
def placeOf (w : List ByteArray) (s : ByteArray) : Int := match wordAt s w 0 with | some j => (j : Int) | none => (w.length : Int)
theorem place_l (w : List ByteArray) (s : ByteArray) (hl : (w.length : Int) ≤ 1000000000000) : ∀ (d k i : Nat), i + d = w.length → d + 1 ≤ k →
    bonsairef08_place.l0 k w s (i : Int) = some (match wordAt s (w.drop i) i with | some j => (j : Int) | none => (w.length : Int))
  | 0, k, i, hd, hk => by
    obtain ⟨k, rfl⟩ : ∃ k', k = k' + 1 := ⟨k - 1, by omega⟩
    unfold bonsairef08_place.l0
    rw [if_neg (by omega), List.drop_eq_nil_of_le (by omega)]
    rfl
  | d + 1, k, i, hd, hk => by
    obtain ⟨k, rfl⟩ : ∃ k', k = k' + 1 := ⟨k - 1, by omega⟩
    have hi : i < w.length := by omega
    unfold bonsairef08_place.l0
    rw [if_pos (by omega), if_pos (by omega), rd_txt hi, w64 (by omega) (by omega), show (i : Int) + 1 = ((i + 1 : Nat) : Int) by omega]
    rw [place_l w s hl d k (i + 1) (by omega) (by omega), List.drop_eq_getElem_cons hi]
    by_cases h : w[i] = s
    · rw [if_pos ((tl_eq _ _).mpr h)]
      simp only [wordAt]
      rw [if_pos ((dl_eq _ _).mpr h)]
    · rw [if_neg (fun h' => h ((tl_eq _ _).mp h'))]
      simp only [wordAt]
      rw [if_neg (fun h' => h ((dl_eq _ _).mp h'))]
theorem place_some (w : List ByteArray) (s : ByteArray) (hl : (w.length : Int) ≤ 1000000000000) (k : Nat) (hk : w.length + 1 ≤ k) : bonsairef08_place.f k w s = some (placeOf w s) := by
  have := place_l w s hl w.length k 0 (by omega) hk
  simpa [bonsairef08_place.f, placeOf] using this
theorem refWords_l (l : List ByteArray) (hl : (l.length : Int) ≤ 1000000000000) : ∀ (d k i : Nat) (w : List ByteArray) (a : List Int), i + d = l.length → w.length ≤ i → a.length = i → l.length + d + 2 ≤ k →
    bonsairef08_Words.l0 k l w a (i : Int) = some (dictG (l.drop i) w a)
  | 0, k, i, w, a, hd, hw, ha, hk => by
    obtain ⟨k, rfl⟩ : ∃ k', k = k' + 1 := ⟨k - 1, by omega⟩
    unfold bonsairef08_Words.l0
    rw [if_neg (by omega), List.drop_eq_nil_of_le (by omega)]
    rfl
  | d + 1, k, i, w, a, hd, hw, ha, hk => by
    obtain ⟨k, rfl⟩ : ∃ k', k = k' + 1 := ⟨k - 1, by omega⟩
    have hi : i < l.length := by omega
    unfold bonsairef08_Words.l0
    rw [if_pos (by omega), if_pos (by omega), rd_txt hi, w64 (by omega) (by omega), show (i : Int) + 1 = ((i + 1 : Nat) : Int) by omega]
    rw [place_some w _ (by omega) k (by omega), List.drop_eq_getElem_cons hi]
    simp only [Option.bind_some, placeOf, dictG]
    cases hq : wordAt l[i] w 0 with
    | none =>
      simp only
      rw [if_pos trivial, if_pos (by omega), if_pos (by omega), w64' (by omega) (by omega)]
      exact refWords_l l hl d k (i + 1) _ _ (by omega) (by simp; omega) (by simp; omega) (by omega)
    | some j =>
      have := wordAt_lt _ _ _ _ hq
      simp only
      rw [if_neg (by omega), if_pos (by omega), w64' (by omega) (by omega)]
      exact refWords_l l hl d k (i + 1) _ _ (by omega) (by omega) (by simp; omega) (by omega)
theorem refWords_some (l : List ByteArray) (hl : (l.length : Int) ≤ 1000000000000) (k : Nat) (hk : 2 * l.length + 2 ≤ k) : bonsairef08_Words.f k l = some (dictG l [] []) :=
  refWords_l l hl l.length k 0 [] [] (by omega) (Nat.le_refl _) rfl (by omega)
def Short (l : List ByteArray) : Prop := ∀ s ∈ l, s.size ≤ 140737488355328
theorem words_some (l : List ByteArray) (hl : (l.length : Int) ≤ 1000000000000) (hs : Short l) : dict_Words.f l = some (dictG l [] []) := by
  unfold dict_Words.f
  rw [if_pos ⟨by omega, hs⟩]
def pickOf (w : List ByteArray) (at_ : List Int) : List ByteArray × Bool := match dictP w at_ [] with | none => ([], false) | some o => (o, true)
theorem refPick_l (w : List ByteArray) (l : List Int) (hw : (w.length : Int) ≤ 1000000000000) (hl : (l.length : Int) ≤ 1000000000000) (h0 : ∀ x ∈ l, 0 ≤ x) : ∀ (d k i : Nat) (o : List ByteArray), i + d = l.length → o.length = i → d + 1 ≤ k →
    bonsairef08_Pick.l0 k w l o (i : Int) = some (match dictP w (l.drop i) o with | none => ([], false) | some o => (o, true))
  | 0, k, i, o, hd, ho, hk => by
    obtain ⟨k, rfl⟩ : ∃ k', k = k' + 1 := ⟨k - 1, by omega⟩
    unfold bonsairef08_Pick.l0
    rw [if_neg (by omega), List.drop_eq_nil_of_le (by omega)]
    rfl
  | d + 1, k, i, o, hd, ho, hk => by
    obtain ⟨k, rfl⟩ : ∃ k', k = k' + 1 := ⟨k - 1, by omega⟩
    have hi : i < l.length := by omega
    have hx := h0 l[i] (List.getElem_mem hi)
    unfold bonsairef08_Pick.l0
    rw [if_pos (by omega), if_pos (by omega), rd_at l i hi, w64 (by omega) (by omega), show (i : Int) + 1 = ((i + 1 : Nat) : Int) by omega, w64' (by omega) (by omega), List.drop_eq_getElem_cons hi]
    simp only [dictP]
    by_cases h : l[i] ≥ (w.length : Int)
    · rw [if_pos h, if_pos h]
    · rw [if_neg h, if_pos hx, if_pos (by omega), if_pos (by omega), if_neg h]
      exact refPick_l w l hw hl h0 d k (i + 1) _ (by omega) (by simp; omega) (by omega)
theorem refPick_some (w : List ByteArray) (l : List Int) (hw : (w.length : Int) ≤ 1000000000000) (hl : (l.length : Int) ≤ 1000000000000) (h0 : ∀ x ∈ l, 0 ≤ x) (k : Nat) (hk : l.length + 1 ≤ k) : bonsairef08_Pick.f k w l = some (pickOf w l) :=
  refPick_l w l hw hl h0 l.length k 0 [] (by omega) rfl hk
theorem pick_some (w : List ByteArray) (l : List Int) (hw : (w.length : Int) ≤ 1000000000000) (hl : (l.length : Int) ≤ 1000000000000) (h0 : ∀ x ∈ l, 0 ≤ x) : dict_Pick.f w l = some (pickOf w l) := by
  unfold dict_Pick.f pickOf
  rw [if_pos ⟨by omega, by omega, h0⟩]
  cases dictP w l [] <;> rfl
end Go.Proofs.Ytbgjoiccehiglaa.LibK
end
section
namespace Go.Proofs.Ytbgjoiccehiglaa.LibL
open Go.RowKit Go.Proofs.Ytbgjoiccehiglaa.Print Go.Proofs.YtbgjoiccehiglaaW.PrintWords Go.Proofs.YtbgjoiccehiglaaW.PrintLast Go.Proofs.YtbgjoiccehiglaaW.PrintMore Go.Proofs.Ytbgjoiccehiglaa.LibU Go.Proofs.Ytbgjoiccehiglaa.LibV Go.Proofs.Ytbgjoiccehiglaa.LibC Go.Proofs.Ytbgjoiccehiglaa.LibE Go.Proofs.Ytbgjoiccehiglaa.LibW Go.Proofs.Ytbgjoiccehiglaa.LibX Go.Proofs.Ytbgjoiccehiglaa.LibY Go.Proofs.Ytbgjoiccehiglaa.LibK Go.Proofs.Ytbgjoiccehiglaa.Pure
theorem nodup_inj {l : List ByteArray} (hn : l.Nodup) {i j : Nat} {hi : i < l.length} {hj : j < l.length} (h : l[i] = l[j]) : i = j := by
  rcases Nat.lt_trichotomy i j with h1 | h1 | h1
  · exact absurd h (List.pairwise_iff_getElem.mp hn i j hi hj h1)
  · exact h1
  · exact absurd h.symm (List.pairwise_iff_getElem.mp hn j i hj hi h1)
theorem wordAt_none (s : ByteArray) : ∀ (l : List ByteArray) (i : Nat), wordAt s l i = none ↔ s ∉ l
  | [], i => by simp [wordAt]
  | x :: l, i => by
    simp only [wordAt, dl_eq]
    by_cases h : x = s
    · rw [if_pos h]; simp [h]
    · rw [if_neg h, wordAt_none s l (i + 1)]
      simp only [List.mem_cons, not_or]
      exact ⟨fun h' => ⟨fun e => h e.symm, h'⟩, fun h' => h'.2⟩
theorem wordAt_some (s : ByteArray) : ∀ (l : List ByteArray) (i k : Nat), wordAt s l i = some k → ∃ h : k - i < l.length, i ≤ k ∧ l[k - i] = s
  | [], i, k, h => by simp [wordAt] at h
  | x :: l, i, k, h => by
    simp only [wordAt, dl_eq] at h
    by_cases hx : x = s
    · rw [if_pos hx] at h
      obtain rfl := Option.some.inj h
      refine ⟨by simp, Nat.le_refl _, ?_⟩
      simp only [Nat.sub_self, List.getElem_cons_zero]
      exact hx
    · rw [if_neg hx] at h
      obtain ⟨h1, h2, h3⟩ := wordAt_some s l (i + 1) k h
      refine ⟨by simp only [List.length_cons]; omega, by omega, ?_⟩
      simp only [show k - i = (k - (i + 1)) + 1 by omega, List.getElem_cons_succ]
      exact h3
theorem wordAt_at {l : List ByteArray} (hn : l.Nodup) (j : Nat) (hj : j < l.length) : wordAt l[j] l 0 = some j := by
  cases h : wordAt l[j] l 0 with
  | none => exact absurd (List.getElem_mem hj) ((wordAt_none _ _ _).mp h)
  | some k =>
    obtain ⟨h1, _, h3⟩ := wordAt_some _ _ _ _ h
    simp only [Nat.sub_zero] at h1 h3
    congr 1
    exact nodup_inj hn h3
theorem dictG_acc : ∀ (l w : List ByteArray) (a : List Int), dictG l w a = ((dictG l w []).1, a ++ (dictG l w []).2)
  | [], w, a => by simp [dictG]
  | s :: l, w, a => by
    simp only [dictG]
    cases wordAt s w 0 with
    | none => simp only; rw [dictG_acc l _ (a ++ [_]), dictG_acc l _ ([] ++ [_])]; simp
    | some k => simp only; rw [dictG_acc l _ (a ++ [_]), dictG_acc l _ ([] ++ [_])]; simp
theorem dictG_nodup : ∀ (l w : List ByteArray) (a : List Int), w.Nodup → (dictG l w a).1.Nodup
  | [], w, a, h => h
  | s :: l, w, a, h => by
    simp only [dictG]
    cases hq : wordAt s w 0 with
    | none =>
      simp only
      refine dictG_nodup l _ _ ?_
      have := (wordAt_none _ _ _).mp hq
      rw [List.nodup_append]
      refine ⟨h, by simp, ?_⟩
      intro x hx y hy e
      simp at hy
      subst hy e
      exact this hx
    | some k => exact dictG_nodup l _ _ h
theorem dictG_len : ∀ (l w : List ByteArray) (a : List Int), (dictG l w a).2.length = a.length + l.length ∧ w.length ≤ (dictG l w a).1.length ∧ (dictG l w a).1.length ≤ w.length + l.length
  | [], w, a => by simp [dictG]
  | s :: l, w, a => by
    simp only [dictG]
    cases wordAt s w 0 with
    | none => have := dictG_len l (w ++ [s]) (a ++ [(w.length : Int)]); simp at this ⊢; omega
    | some k => have := dictG_len l w (a ++ [(k : Int)]); simp at this ⊢; omega
theorem dictG_mem : ∀ (l w : List ByteArray) (a : List Int) (x : ByteArray), x ∈ (dictG l w a).1 → x ∈ w ∨ x ∈ l
  | [], w, a, x, h => .inl h
  | s :: l, w, a, x, h => by
    simp only [dictG] at h
    cases hq : wordAt s w 0 with
    | none =>
      rw [hq] at h
      rcases dictG_mem l _ _ x h with h | h
      · simp at h; rcases h with h | h
        · exact .inl h
        · exact .inr (by simp [h])
      · exact .inr (by simp [h])
    | some k =>
      rw [hq] at h
      rcases dictG_mem l _ _ x h with h | h
      · exact .inl h
      · exact .inr (by simp [h])
theorem dictG_at : ∀ (l w : List ByteArray) (a : List Int), w.length ≤ 1000000000000 → (∀ x ∈ a, 0 ≤ x ∧ x < w.length) → ∀ x ∈ (dictG l w a).2, 0 ≤ x ∧ x < (dictG l w a).1.length
  | [], w, a, hw, h => h
  | s :: l, w, a, hw, h => by
    simp only [dictG]
    cases hq : wordAt s w 0 with
    | none =>
      by_cases hb : (w ++ [s]).length ≤ 1000000000000
      · refine dictG_at l _ _ hb ?_
        intro x hx
        simp only [List.mem_append, List.mem_singleton, List.length_append, List.length_singleton] at hx ⊢
        rcases hx with hx | rfl
        · have := h x hx; omega
        · omega
      · refine dictG_at' l _ _ ?_
        intro x hx
        simp only [List.mem_append, List.mem_singleton, List.length_append, List.length_singleton] at hx ⊢
        rcases hx with hx | rfl
        · have := h x hx; omega
        · omega
    | some k =>
      have hk := wordAt_lt _ _ _ _ hq
      refine dictG_at l _ _ hw ?_
      intro x hx
      simp only [List.mem_append, List.mem_singleton] at hx
      rcases hx with hx | rfl
      · exact h x hx
      · omega
where dictG_at' : ∀ (l w : List ByteArray) (a : List Int), (∀ x ∈ a, 0 ≤ x ∧ x < w.length) → ∀ x ∈ (dictG l w a).2, 0 ≤ x ∧ x < (dictG l w a).1.length
  | [], w, a, h => h
  | s :: l, w, a, h => by
    simp only [dictG]
    cases hq : wordAt s w 0 with
    | none =>
      refine dictG_at' l _ _ ?_
      intro x hx
      simp only [List.mem_append, List.mem_singleton, List.length_append, List.length_singleton] at hx ⊢
      rcases hx with hx | rfl
      · have := h x hx; omega
      · omega
    | some k =>
      have hk := wordAt_lt _ _ _ _ hq
      refine dictG_at' l _ _ ?_
      intro x hx
      simp only [List.mem_append, List.mem_singleton] at hx
      rcases hx with hx | rfl
      · exact h x hx
      · omega
def pk (w : List ByteArray) (l : List Int) : List ByteArray := l.map (fun k => rdOf ByteArray.empty w k)
theorem dictP_is (w : List ByteArray) : ∀ (l : List Int) (o : List ByteArray), dictP w l o = if ∀ x ∈ l, x < (w.length : Int) then some (o ++ pk w l) else none
  | [], o => by simp [dictP, pk]
  | x :: l, o => by
    simp only [dictP]
    rw [dictP_is w l]
    by_cases h : x ≥ (w.length : Int)
    · rw [if_pos h, if_neg (fun h' => by have := h' x (by simp); omega)]
    · rw [if_neg h]
      by_cases h2 : ∀ y ∈ l, y < (w.length : Int)
      · rw [if_pos h2, if_pos (fun y hy => (List.mem_cons.mp hy).elim (fun e => by omega) (fun hy => h2 y hy))]
        simp [pk]
      · rw [if_neg h2, if_neg (fun h' => h2 (fun y hy => h' y (by simp [hy])))]
def mayD (w : List ByteArray) (l : List Int) : Bool := match dictP w l [] with | none => false | some o => decide (dictG o [] [] = (w, l))
theorem dictM_is (w : List ByteArray) (hn : w.Nodup) : ∀ (l : List Int) (m : Nat) (a : List Int), m ≤ w.length → (∀ x ∈ l, 0 ≤ x) → (∀ x ∈ l, x < (w.length : Int)) →
    (match dictM (w.length : Int) l (m : Int) with
      | none => (dictG (pk w l) (w.take m) a).2 ≠ a ++ l
      | some met => ∃ q : Nat, met = (q : Int) ∧ q ≤ w.length ∧ dictG (pk w l) (w.take m) a = (w.take q, a ++ l))
  | [], m, a, hm, _, _ => by
    simp only [dictM, pk, List.map_nil, dictG]
    exact ⟨m, rfl, hm, by simp⟩
  | x :: l, m, a, hm, h0, h1 => by
    have hx0 := h0 x (by simp)
    have hx1 := h1 x (by simp)
    obtain ⟨j, rfl⟩ := Int.eq_ofNat_of_zero_le hx0
    have hj : j < w.length := by omega
    have hrd : rdOf ByteArray.empty w (j : Int) = w[j] := rd_txt hj
    simp only [dictM, pk, List.map_cons, hrd, dictG]
    by_cases hjm : (j : Int) > m
    · rw [if_pos hjm]
      simp only
      have hnot : wordAt w[j] (w.take m) 0 = none := by
        rw [wordAt_none]
        intro hmem
        obtain ⟨q, hq, he⟩ := List.mem_iff_getElem.mp hmem
        simp only [List.length_take] at hq
        rw [List.getElem_take] at he
        have := nodup_inj hn he
        omega
      rw [hnot]
      simp only
      rw [dictG_acc]
      simp only [List.length_take]
      intro he
      rw [List.append_assoc, List.append_cancel_left_eq, List.singleton_append, List.cons.injEq] at he
      omega
    · rw [if_neg hjm, if_neg (by omega)]
      by_cases hje : j = m
      · subst hje
        have hnot : wordAt w[j] (w.take j) 0 = none := by
          rw [wordAt_none]
          intro hmem
          obtain ⟨q, hq, he⟩ := List.mem_iff_getElem.mp hmem
          simp only [List.length_take] at hq
          rw [List.getElem_take] at he
          have := nodup_inj hn he
          omega
        rw [hnot, show mx (j : Int) ((j : Int) + 1) = ((j + 1 : Nat) : Int) by unfold mx; split <;> omega]
        have ih := dictM_is w hn l (j + 1) (a ++ [(j : Int)]) (by omega) (fun y hy => h0 y (by simp [hy])) (fun y hy => h1 y (by simp [hy]))
        simp only [List.append_assoc, List.singleton_append] at ih
        rw [List.take_succ_eq_append_getElem hj] at ih
        have hl : (w.take j).length = j := by simp; omega
        simp only [hl, pk] at ih ⊢
        exact ih
      · have hlt : j < m := by omega
        have hin : wordAt w[j] (w.take m) 0 = some j := by
          have := wordAt_at (l := w.take m) (hn.sublist (List.take_sublist m w)) j (by simp; omega)
          rwa [List.getElem_take] at this
        rw [hin, show mx (m : Int) ((j : Int) + 1) = (m : Int) by unfold mx; split <;> omega]
        have ih := dictM_is w hn l m (a ++ [(j : Int)]) hm (fun y hy => h0 y (by simp [hy])) (fun y hy => h1 y (by simp [hy]))
        simp only [List.append_assoc, List.singleton_append] at ih
        simp only [pk] at ih ⊢
        exact ih
theorem dictM_big (n : Int) : ∀ (l : List Int) (m : Int), (¬ ∀ x ∈ l, x < n) → dictM n l m = none
  | [], m, h => absurd (by simp) h
  | x :: l, m, h => by
    simp only [dictM]
    by_cases h1 : x > m
    · rw [if_pos h1]
    · rw [if_neg h1]
      by_cases h2 : x ≥ n
      · rw [if_pos h2]
      · rw [if_neg h2]
        refine dictM_big n l _ (fun h' => h ?_)
        intro y hy
        rcases List.mem_cons.mp hy with rfl | hy
        · omega
        · exact h' y hy
theorem uniq_nodup : ∀ (l w : List ByteArray), (w ++ l).Nodup → uniq l w = w ++ l
  | [], w, h => by simp [uniq]
  | s :: l, w, h => by
    have hs : wordAt s w 0 = none := by
      rw [wordAt_none]
      intro hm
      rw [List.nodup_append] at h
      exact h.2.2 s hm s (by simp) rfl
    simp only [uniq, hs]
    have := uniq_nodup l (w ++ [s]) (by simpa using h)
    simpa using this
theorem uniq_conv : ∀ (l w : List ByteArray), w.Nodup → (uniq l w).length = w.length + l.length → (w ++ l).Nodup
  | [], w, h, _ => by simpa using h
  | s :: l, w, h, he => by
    simp only [uniq] at he
    cases hs : wordAt s w 0 with
    | some k =>
      rw [hs] at he
      have := uniq_len l w
      simp only [List.length_cons] at he
      omega
    | none =>
      rw [hs] at he
      have hn := (wordAt_none _ _ _).mp hs
      have := uniq_conv l (w ++ [s]) (by
        rw [List.nodup_append]
        refine ⟨h, by simp, ?_⟩
        intro x hx y hy e
        simp at hy
        subst hy e
        exact hn hx) (by simp at he ⊢; omega)
      simpa using this
theorem may_some (w : List ByteArray) (l : List Int) (hw : (w.length : Int) ≤ 1000000000000) (hs : Short w) (hl : (l.length : Int) ≤ 1000000000000) (h0 : ∀ x ∈ l, 0 ≤ x) : dict_May.f w l = some (mayD w l) := by
  unfold dict_May.f mayD
  rw [if_pos ⟨by omega, hs, by omega, h0⟩, dictP_is]
  by_cases hall : ∀ x ∈ l, x < (w.length : Int)
  · rw [if_pos hall]
    simp only [List.nil_append]
    by_cases hn : w.Nodup
    · have hm := dictM_is w hn l 0 [] (by omega) h0 hall
      simp only [Int.natCast_zero, List.take_zero, List.nil_append] at hm
      cases hd : dictM (w.length : Int) l 0 with
      | none =>
        rw [hd] at hm
        simp only at hm ⊢
        congr 1
        symm
        rw [decide_eq_false_iff_not]
        intro e
        exact hm (by rw [e])
      | some met =>
        rw [hd] at hm
        simp only at hm ⊢
        obtain ⟨q, rfl, hq, he⟩ := hm
        have hu : uniq w [] = w := by simpa using uniq_nodup w [] (by simpa using hn)
        by_cases hqe : q = w.length
        · rw [if_pos (by omega)]
          congr 1
          rw [decide_eq_decide, he, hu, hqe]
          simp
        · rw [if_neg (by omega)]
          congr 1
          symm
          rw [decide_eq_false_iff_not, he]
          intro e
          have := congrArg (fun p => p.1.length) e
          simp at this
          omega
    · have hF : decide (dictG (pk w l) [] [] = (w, l)) = false := by
        rw [decide_eq_false_iff_not]
        intro e
        have := dictG_nodup (pk w l) [] [] (by simp)
        rw [e] at this
        exact hn this
      rw [hF]
      cases dictM (w.length : Int) l 0 with
      | none => rfl
      | some met =>
        simp only
        split
        · congr 1
          rw [decide_eq_false_iff_not]
          intro e
          have := uniq_conv w [] (by simp) (by simpa using e)
          exact hn (by simpa using this)
        · rfl
  · rw [if_neg hall, dictM_big _ _ _ hall]
theorem refMay_some (w : List ByteArray) (l : List Int) (hw : (w.length : Int) ≤ 1000000000000) (hl : (l.length : Int) ≤ 1000000000000) (h0 : ∀ x ∈ l, 0 ≤ x) (k : Nat) (hk : 2 * l.length + 2 ≤ k) : bonsairef08_May.f k w l = some (mayD w l) := by
  unfold bonsairef08_May.f mayD
  rw [refPick_some w l hw hl h0 k (by omega)]
  simp only [Option.bind_some, pickOf]
  rw [dictP_is]
  by_cases hall : ∀ x ∈ l, x < (w.length : Int)
  · rw [if_pos hall]
    simp only [List.nil_append, if_true]
    have hpl : (pk w l).length = l.length := by simp [pk]
    rw [refWords_some _ (by omega) k (by omega)]
    simp only [Option.bind_some]
    have hlen := dictG_len (pk w l) [] []
    simp only [List.length_nil] at hlen
    rw [same4 _ _ (by omega) k (by omega)]
    simp only [Option.bind_some, decide_eq_true_eq]
    by_cases h1 : (dictG (pk w l) [] []).1 = w
    · rw [if_pos h1, same6 _ _ (by omega) k (by omega)]
      simp only [Option.bind_some]
      congr 1
      rw [decide_eq_decide]
      exact ⟨fun h2 => Prod.ext h1 h2, fun h2 => by rw [h2]⟩
    · rw [if_neg h1]
      congr 1
      symm
      rw [decide_eq_false_iff_not]
      intro e
      exact h1 (by rw [e])
  · rw [if_neg hall]
    rfl
end Go.Proofs.Ytbgjoiccehiglaa.LibL
end
section
namespace Go.Proofs.Ytbgjoiccehiglaa.LibM
open Go.RowKit Go.Proofs.Ytbgjoiccehiglaa.Print Go.Proofs.YtbgjoiccehiglaaW.PrintWords Go.Proofs.YtbgjoiccehiglaaW.PrintLast Go.Proofs.YtbgjoiccehiglaaW.PrintMore Go.Proofs.Ytbgjoiccehiglaa.LibD Go.Proofs.Ytbgjoiccehiglaa.LibU Go.Proofs.Ytbgjoiccehiglaa.LibV Go.Proofs.Ytbgjoiccehiglaa.LibC Go.Proofs.Ytbgjoiccehiglaa.LibE Go.Proofs.Ytbgjoiccehiglaa.LibW Go.Proofs.Ytbgjoiccehiglaa.LibX Go.Proofs.Ytbgjoiccehiglaa.LibY Go.Proofs.Ytbgjoiccehiglaa.LibK Go.Proofs.Ytbgjoiccehiglaa.LibL
noncomputable def putW (t : ByteArray) : ByteArray := put t.size ++ t
noncomputable def putWs : List ByteArray → ByteArray
  | [] => noText
  | t :: l => putW t ++ putWs l
theorem putW_size (t : ByteArray) : (putW t).size ≤ t.size + 10 ∧ 1 ≤ (putW t).size := by
  have := put_size t.size
  unfold putW
  rw [ByteArray.size_append]
  omega
theorem putWs_size : ∀ (l : List ByteArray), (∀ x ∈ l, x.size ≤ 1000000) → (putWs l).size ≤ 1000010 * l.length
  | [], _ => Nat.zero_le _
  | t :: l, h => by
    have h1 := putW_size t
    have h2 := h t (List.mem_cons_self)
    have h3 := putWs_size l (fun x hx => h x (List.mem_cons_of_mem _ hx))
    simp only [putWs, ByteArray.size_append, List.length_cons]
    omega
theorem putW_both (t : ByteArray) (ht : t.size ≤ 1000000) (k : Nat) (hk : 10 ≤ k) : word_Put.f k t = some (putW t) ∧ bonsairef04_Put.f k t = some (putW t) := by
  have := wordPut t (by omega) k hk
  exact ⟨this.1, this.2.trans this.1⟩
theorem enc_words (k : Nat) (hk : 10 ≤ k) : ∀ (l : List ByteArray) (acc : ByteArray), (∀ x ∈ l, x.size ≤ 1000000) → acc.size + 1000010 * l.length ≤ 140737488355328 → dict_Encode.g k l acc = some (acc ++ putWs l)
  | [], acc, _, _ => by rw [dict_Encode.g, putWs, app_no]
  | t :: l, acc, h, hs => by
    have ht := h t (List.mem_cons_self)
    have hz := putW_size t
    simp only [List.length_cons] at hs
    simp only [dict_Encode.g, (putW_both t ht k hk).1, Option.bind_some]
    rw [if_pos (by omega), enc_words k hk l _ (fun x hx => h x (List.mem_cons_of_mem _ hx)) (by rw [ByteArray.size_append]; omega), putWs, ByteArray.append_assoc]
theorem refEnc_words (w : List ByteArray) (a : List Int) (hw : (w.length : Int) ≤ 1000000) (hs : ∀ x ∈ w, x.size ≤ 1000000) (ha : (a.length : Int) ≤ 1000000) (ha0 : ∀ x ∈ a, 0 ≤ x ∧ x < 18446744073709551616) :
    ∀ (d k i : Nat) (acc : ByteArray), i + d = w.length → d + a.length + 20 ≤ k → acc.size + 1000010 * d ≤ 140737488355328 → bonsairef08_Encode.l0 k w a acc (i : Int) = some (acc ++ (putWs (w.drop i) ++ encR (runs a)))
  | 0, k, i, acc, hd, hk, hz => by
    obtain ⟨k, rfl⟩ : ∃ k', k = k' + 1 := ⟨k - 1, by omega⟩
    have h1 := encR_size (runs a)
    have h2 := len_runs a
    unfold bonsairef08_Encode.l0
    rw [if_neg (by omega), List.drop_eq_nil_of_le (by omega), (enc_some a (by omega) ha0 k (by omega)).2]
    simp only [Option.bind_some, putWs]
    rw [if_pos (by omega), no_app]
  | d + 1, k, i, acc, hd, hk, hz => by
    obtain ⟨k, rfl⟩ : ∃ k', k = k' + 1 := ⟨k - 1, by omega⟩
    have hi : i < w.length := by omega
    have ht := hs w[i] (List.getElem_mem hi)
    have hp := putW_size w[i]
    unfold bonsairef08_Encode.l0
    rw [if_pos (by omega), if_pos (by omega), rd_txt hi, LibV.w64 (by omega) (by omega), show (i : Int) + 1 = ((i + 1 : Nat) : Int) by omega, (putW_both _ ht k (by omega)).2]
    simp only [Option.bind_some]
    rw [if_pos (by omega), refEnc_words w a hw hs ha ha0 d k (i + 1) _ (by omega) (by omega) (by rw [ByteArray.size_append]; omega), List.drop_eq_getElem_cons hi, putWs]
    simp only [ByteArray.append_assoc]
noncomputable def encD (l : List ByteArray) : ByteArray := put ((dictG l [] []).1.length : Int) ++ (putWs (dictG l [] []).1 ++ encR (runs (dictG l [] []).2))
theorem encD_some (l : List ByteArray) (hl : (l.length : Int) ≤ 1000000) (hs : ∀ x ∈ l, x.size ≤ 1000000) (k : Nat) (hk : 3 * l.length + 30 ≤ k) : dict_Encode.f k l = some (encD l) ∧ bonsairef08_Encode.f k l = some (encD l) := by
  have hg := dictG_len l [] []
  simp only [List.length_nil] at hg
  have hm : ∀ x ∈ (dictG l [] []).1, x.size ≤ 1000000 := fun x hx => hs x ((dictG_mem l [] [] x hx).resolve_left (by simp))
  have ha : ∀ x ∈ (dictG l [] []).2, 0 ≤ x ∧ x < 18446744073709551616 := fun x hx => by
    have := dictG_at l [] [] (by simp) (by simp) x hx
    omega
  have hp := put_both ((dictG l [] []).1.length : Int) (by omega) (by omega) k (by omega)
  have hz := put_size ((dictG l [] []).1.length : Int)
  have hwz := putWs_size _ hm
  have hrz := encR_size (runs (dictG l [] []).2)
  have hrl := len_runs (dictG l [] []).2
  refine ⟨?_, ?_⟩
  · unfold dict_Encode.f
    rw [words_some l (by omega) (fun s h => by have := hs s h; omega)]
    simp only [Option.bind_some]
    rw [if_pos (by omega), w64' (by omega) (by omega), hp.1]
    simp only [Option.bind_some]
    rw [if_pos (by omega), enc_words k (by omega) _ _ hm (by omega), (enc_some _ (by omega) ha k (by omega)).1]
    simp only [Option.bind_some]
    rw [if_pos (by rw [ByteArray.size_append]; omega), encD, ByteArray.append_assoc]
  · unfold bonsairef08_Encode.f
    rw [refWords_some l (by omega) k (by omega)]
    simp only [Option.bind_some]
    rw [w64' (by omega) (by omega), hp.2]
    simp only [Option.bind_some]
    have := refEnc_words (dictG l [] []).1 (dictG l [] []).2 (by omega) hm (by omega) ha (dictG l [] []).1.length k 0 (put ((dictG l [] []).1.length : Int)) (by omega) (by omega) (by omega)
    simpa [encD] using this
end Go.Proofs.Ytbgjoiccehiglaa.LibM
end
section
namespace Go.Proofs.Ytbgjoiccehiglaa.LibN
open Go.RowKit Go.Proofs.Ytbgjoiccehiglaa.Print Go.Proofs.YtbgjoiccehiglaaW.PrintWords Go.Proofs.YtbgjoiccehiglaaW.PrintLast Go.Proofs.YtbgjoiccehiglaaW.PrintMore Go.Proofs.Ytbgjoiccehiglaa.LibB
set_option maxRecDepth 100000 in
theorem live08 : bonsailaw08_live.f 60 = some true := by decide +kernel
theorem live08_at {k : Nat} (hk : 60 ≤ k) : bonsailaw08_live.f k = some true := at_rounds (g := bonsailaw08_live.f) (fun k => bonsailaw08_live.mono k) hk live08
end Go.Proofs.Ytbgjoiccehiglaa.LibN
end
section
namespace Go.Proofs.Ytbgjoiccehiglaa.Pure
open Go.RowKit Go.Proofs.Ytbgjoiccehiglaa.Print Go.Proofs.YtbgjoiccehiglaaW.PrintWords Go.Proofs.YtbgjoiccehiglaaW.PrintLast Go.Proofs.YtbgjoiccehiglaaW.PrintMore Go.Proofs.Ytbgjoiccehiglaa.LibK Go.Proofs.Ytbgjoiccehiglaa.LibL Go.Proofs.Ytbgjoiccehiglaa.LibM Go.Proofs.Ytbgjoiccehiglaa.LibN
theorem u64s {l : List Int} (h : ∀ x ∈ l, (Lit.int .u64 x).wf = true) : ∀ x ∈ l, 0 ≤ x ∧ x < 18446744073709551616 := fun x hx => by
  have := h x hx
  simp [Lit.wf, IntKind.min, IntKind.max, IntKind.bits, IntKind.signed] at this
  omega
theorem picked (w : List ByteArray) (l : List Int) : (pickOf w l).1.length ≤ l.length := by
  unfold pickOf
  rw [dictP_is]
  split
  · exact Nat.zero_le _
  · rename_i h
    split at h
    · obtain rfl := Option.some.inj h
      simp [pk]
    · exact absurd h (by simp)
theorem DictTells : ∀ (l0 : List ByteArray) (l1 : List ByteArray) (l2 : List Int), l0.length ≤ maxLen → (∀ x ∈ l0, x.size ≤ maxLen) → l1.length ≤ maxLen → (∀ x ∈ l1, x.size ≤ maxLen) → l2.length ≤ maxLen → (∀ x ∈ l2, (Lit.int .u64 x).wf = true) → ∃ k, bonsailaw08_DictTells.f k l0 l1 l2 = some true := by
  intro l w a _ _ _ _ _ ha
  have hu := u64s ha
  refine ⟨999 + 1, ?_⟩
  unfold bonsailaw08_DictTells.f
  have yes : bonsailaw08_DictTells.j0 (999 + 1) l w a true = some true := by
    simp only [bonsailaw08_DictTells.j0, if_true]
    rw [live08_at (by omega)]; rfl
  rw [few_some l 60 60 (by omega) _ (by omega) (by omega), few_some w 60 60 (by omega) _ (by omega) (by omega)]
  simp only [Option.bind_some, decide_eq_true_eq]
  by_cases h1 : (l.length : Int) ≤ 60 ∧ ∀ x ∈ l, (x.size : Int) ≤ 60
  rotate_left
  · rw [if_neg h1]; exact yes
  rw [if_pos h1]
  by_cases h2 : (w.length : Int) ≤ 60 ∧ ∀ x ∈ w, (x.size : Int) ≤ 60
  rotate_left
  · rw [if_neg h2]; exact yes
  rw [if_pos h2]
  by_cases h3 : (a.length : Int) > 60
  · rw [decide_eq_true h3]; exact yes
  rw [decide_eq_false h3]
  obtain ⟨h11, h12⟩ := h1
  obtain ⟨h21, h22⟩ := h2
  have hs : Short l := fun x hx => by have := h12 x hx; omega
  have ht : Short w := fun x hx => by have := h22 x hx; omega
  have hg := dictG_len l [] []
  simp only [List.length_nil] at hg
  have hp := picked w a
  obtain ⟨e1, e2⟩ := encD_some l (by omega) (fun x hx => by have := h12 x hx; omega) 999 (by omega)
  simp only [bonsailaw08_DictTells.j0, Bool.false_eq_true, if_false]
  rw [words_some l (by omega) hs, refWords_some l (by omega) 999 (by omega), pick_some w a (by omega) (by omega) (fun x h => (hu x h).1), refPick_some w a (by omega) (by omega) (fun x h => (hu x h).1) 999 (by omega)]
  simp only [Option.bind_some]
  rw [same4 _ _ (by omega) 999 (by omega), same6 _ _ (by omega) 999 (by omega), e1, e2, same4 _ _ (by omega) 999 (by omega), may_some w a (by omega) ht (by omega) (fun x h => (hu x h).1), refMay_some w a (by omega) (by omega) (fun x h => (hu x h).1) 999 (by omega), live08_at (by omega)]
  simp
end Go.Proofs.Ytbgjoiccehiglaa.Pure
end
