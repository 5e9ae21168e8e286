/- Part 1 of what RowsSizes, RowsBack stands on: merged by a program of this session out of its texts. -/
import Derived.Test.YtfgnjndfnijjoaaCRowsSizes0
section
namespace Go.Proofs.Ytfgnjndfnijjoaa.Print
open Go.RowKit Go.Proofs.YtfgnjndfnijjoaaW.PrintWords Go.Proofs.YtfgnjndfnijjoaaW.PrintLast Go.Proofs.YtfgnjndfnijjoaaW.PrintMore
attribute [local go_sem] max2_int min2_int max_two min_two max_three min_three max_four min_four
attribute [local go_sem] run_store_float
set_option linter.unusedVariables false
set_option linter.unusedSimpArgs false
mutual
def bonsailaw21_RowsSizes.j0 : Nat → List (S30) → Bool → Option (Bool)
  | 0, _, _ => none
  | k + 1, x0, x17 => if x17 = true then ((bonsailaw21_live.f k).bind fun t401 => (some t401)) else (bonsailaw21_RowsSizes.l0 k x0 (⟨#[]⟩ : ByteArray) 0)
def bonsailaw21_RowsSizes.l0 : Nat → List (S30) → ByteArray → Int → Option (Bool)
  | 0, _, _, _ => none
  | k + 1, x0, x3, x4 => if x4 < (x0.length : Int) then (if 0 ≤ x4 then (if x4 ≤ (x0.length : Int) then ((rows_Encode.f k (x0.take (x4 : Int).toNat)).bind fun bt412 => (if bt412.2 = 0 then (if (bt412.1.size : Int) = (wrap64 (6 + (x3.size : Int))) then (if 6 ≤ (bt412.1.size : Int) then (bonsailaw21_RowsSizes.j2 k x0 x3 x4 ((bt412.1.extract 6 bt412.1.size).toList != x3.toList)) else (none)) else (bonsailaw21_RowsSizes.j2 k x0 x3 x4 true)) else (bonsailaw21_RowsSizes.j2 k x0 x3 x4 true))) else (none)) else (none)) else ((rows_Encode.f k x0).bind fun bt402 => (if bt402.2 = 0 then ((some (([((x0.length : Int)) % 256] : List Int) : List Int)).bind fun y404 => (if 5 + (strOfNums y404).size ≤ 9223372036854775807 then (if ((⟨#[66, 78, 83, 73, 1]⟩ : ByteArray) ++ (strOfNums y404)).size + x3.size ≤ 9223372036854775807 then (if bt402.1.toList = (((⟨#[66, 78, 83, 73, 1]⟩ : ByteArray) ++ (strOfNums y404)) ++ x3).toList then ((bonsailaw21_live.f k).bind fun t407 => (some t407)) else (none)) else (none)) else (none))) else (none)))
def bonsailaw21_RowsSizes.j2 : Nat → List (S30) → ByteArray → Int → Bool → Option (Bool)
  | 0, _, _, _, _ => none
  | k + 1, x0, x3, x4, x47 => if x47 = true then (none) else (if 0 ≤ x4 then (if x4 < (x0.length : Int) then ((rows_One.f k ((rd_T30 x0 x4).f0.f0) ((rd_T30 x0 x4).f0.f1) ((rd_T30 x0 x4).f1) ((rd_T30 x0 x4).f2) ((rd_T30 x0 x4).f3) ((rd_T30 x0 x4).f4)).bind fun t415 => (if (t415.size : Int) < 13 then (none) else (if (t415.size : Int) > 117 then (none) else (if x3.size + t415.size ≤ 9223372036854775807 then (bonsailaw21_RowsSizes.l0 k x0 (x3 ++ t415) (wrap64 (x4 + 1))) else (none))))) else (none)) else (none))
end
def bonsailaw21_RowsSizes.f (k : Nat) (l0 : List (S30)) : Option (Bool) := (bonsairef13_Few.f k l0 40).bind fun t399 => (if t399 = true then ((bonsairef13_May.f k l0).bind fun t400 => (bonsailaw21_RowsSizes.j0 k l0 (!t400))) else (bonsailaw21_RowsSizes.j0 k l0 true))
set_option maxHeartbeats 8000000 in
set_option maxRecDepth 100000 in
theorem bonsailaw21_RowsSizes.calls (k : Nat) (A0 : Option Addr) (c0 : Nat) (l0 : List (S30)) (r : Bool) (w : World) (hr0 : Kd.C k30 w A0 l0.length l0) (hc0 : l0.length ≤ c0) (h : bonsailaw21_RowsSizes.f k l0 = some r) :
    Calls Try.prog 6 #[.slice A0 l0.length c0] w fun e w' => e = .returned (.bool r) ∧ Below w.heap.size w w' := by
  have hu30 := Try.underlying30
  have HR0 := Aside0.mk hr0
  have HC0 := Aside0.mk hc0
  clear hr0 hc0
  have HB := Aside0.mk (Below.refl w.heap.size w)
  have H : ((bonsairef13_Few.f k l0 40).bind fun t399 => (if t399 = true then ((bonsairef13_May.f k l0).bind fun t400 => (bonsailaw21_RowsSizes.j0 k l0 (!t400))) else (bonsailaw21_RowsSizes.j0 k l0 true))) = some r := h
  clear h
  have HC2 := Aside0.mk H
  clear H
  go_enter Try.func6, Try.ntmps6
  go_upto_region 1 with (fail)
  go_cut [17] (fun v17 wc => ∃ (kq : Nat) (x17_1 : Bool), v17 = .bool x17_1 ∧ Aside0 (bonsailaw21_RowsSizes.j0 kq l0 x17_1 = some r) ∧ Aside0 (kq ≤ k) ∧ Aside0 (Below w.heap.size w wc))
  case first =>
    have H := HC2.out
    clear HC2
    replace H := Option.bind_eq_some_iff.mp H
    obtain ⟨t399, A30, H⟩ := H
    replace H : (if t399 = true then ((bonsairef13_May.f k l0).bind fun t400 => (bonsailaw21_RowsSizes.j0 k l0 (!t400))) else (bonsailaw21_RowsSizes.j0 k l0 true)) = some r := H
    have A3 := Aside0.mk A30
    clear A30
    by_cases c4 : t399 = true
    · subst c4
      have H1 : ((bonsairef13_May.f k l0).bind fun t400 => (bonsailaw21_RowsSizes.j0 k l0 (!t400))) = some r := by rw [if_pos rfl] at H; exact H
      clear H
      have H := H1
      clear H1
      replace H := Option.bind_eq_some_iff.mp H
      obtain ⟨t400, A50, H⟩ := H
      replace H : (bonsailaw21_RowsSizes.j0 k l0 (!t400)) = some r := H
      have A5 := Aside0.mk A50
      clear A50
      have H' := Aside0.mk H
      clear H
      go_wp2_with (first | ((with_reducible refine gate_callee (f := 7) rfl ?_); refine goesL_ (some 11) rfl rfl Try.func7 (by kernel_rfl) rfl #[.slice A0 l0.length c0, .int .i64 40] rfl (by (try simp only [List.map_toArray, List.map_cons, List.map_nil]); first | done | rfl | (simp only [List.length_drop, List.length_take]; rfl)) ?_; (with_reducible refine (bonsairef13_Few.calls k _ _ l0 40 true _ ?side1 ?side2 A3.out).mono ?_); (case side1 => repeat (first | exact (Kd.C_below HR0.out HB.out) | (with_reducible refine Kd.C_alloc ?_ _) | (with_reducible refine Kd.C_drewN ?_ _) | (with_reducible refine Kd.C_drew ?_))); (case side2 => exact HC0.out); rintro e w' ⟨rfl, ⟨nd, rfl⟩⟩; refine ⟨_, rfl, ?_⟩) | (go_at_call 16; (with_reducible refine (bonsairef13_May.calls k _ _ l0 t400 _ ?side1 ?side2 A5.out).mono ?_); (case side1 => repeat (first | exact (Kd.C_below HR0.out (by repeat (first | (with_reducible first | exact HB.out | apply below_alloc | apply pw_below_drewN | apply below_drew1) | exact HB.out))) | (with_reducible refine Kd.C_alloc ?_ _) | (with_reducible refine Kd.C_drewN ?_ _) | (with_reducible refine Kd.C_drew ?_))); (case side2 => exact HC0.out); rintro e w6 ⟨rfl, hb⟩; have n0_ := Aside0.mk (below_step (by repeat (first | (with_reducible first | exact HB.out | apply below_alloc | apply pw_below_drewN | apply below_drew1) | exact HB.out)) hb); clear HB; have HB := n0_; clear n0_; (try clear hb); (try clear hb2); (try clear hk); (try clear hi)))
      go_meet
      case rel => exact ⟨_, (!t400), (by first | rfl | (simp; done) | (simp [*]; done)), H', ⟨by first | omega | exact Nat.le_refl _⟩, ⟨by repeat (first | (with_reducible first | exact HB.out | apply below_alloc | apply pw_below_drewN | apply below_drew1) | exact HB.out)⟩⟩
    · replace c4 := Bool.eq_false_iff.mpr c4
      subst c4
      have H1 : (bonsailaw21_RowsSizes.j0 k l0 true) = some r := by rw [if_neg (show ¬ (false = true) by decide)] at H; exact H
      clear H
      have H := H1
      clear H1
      have H' := Aside0.mk H
      clear H
      go_wp2_with (first | ((with_reducible refine gate_callee (f := 7) rfl ?_); refine goesL_ (some 11) rfl rfl Try.func7 (by kernel_rfl) rfl #[.slice A0 l0.length c0, .int .i64 40] rfl (by (try simp only [List.map_toArray, List.map_cons, List.map_nil]); first | done | rfl | (simp only [List.length_drop, List.length_take]; rfl)) ?_; (with_reducible refine (bonsairef13_Few.calls k _ _ l0 40 false _ ?side1 ?side2 A3.out).mono ?_); (case side1 => repeat (first | exact (Kd.C_below HR0.out HB.out) | (with_reducible refine Kd.C_alloc ?_ _) | (with_reducible refine Kd.C_drewN ?_ _) | (with_reducible refine Kd.C_drew ?_))); (case side2 => exact HC0.out); rintro e w' ⟨rfl, ⟨nd, rfl⟩⟩; refine ⟨_, rfl, ?_⟩))
      go_meet
      case rel => exact ⟨_, (true), (by first | rfl | (simp; done) | (simp [*]; done)), H', ⟨by first | omega | exact Nat.le_refl _⟩, ⟨by repeat (first | (with_reducible first | exact HB.out | apply below_alloc | apply pw_below_drewN | apply below_drew1) | exact HB.out)⟩⟩
  case rest =>
    clear HC2
    try clear p2
    try clear c4
    try clear c6
    obtain ⟨kq, x17_1, rfl, HA, HJ1, HB⟩ := hcut
    cases kq with
    | zero => exact absurd HA.out (by simp [bonsailaw21_RowsSizes.j0])
    | succ kj1 =>
      have H := HA.out
      clear HA
      simp only [bonsailaw21_RowsSizes.j0] at H
      by_cases c7 : x17_1 = true
      · subst c7
        have H1 : ((bonsailaw21_live.f kj1).bind fun t401 => (some t401)) = some r := by rw [if_pos rfl] at H; exact H
        clear H
        have H := H1
        clear H1
        replace H := Option.bind_eq_some_iff.mp H
        obtain ⟨t401, A80, H⟩ := H
        replace H : (some t401) = some r := H
        have A8 := Aside0.mk A80
        clear A80
        obtain rfl := Option.some.inj H
        go_wp2_with (first | ((with_reducible refine gate_callee (f := 8) rfl ?_); refine goesL_ (some 18) rfl rfl Try.func8 (by kernel_rfl) rfl #[] rfl (by (try simp only [List.map_toArray, List.map_cons, List.map_nil]); first | done | rfl | (simp only [List.length_drop, List.length_take]; rfl)) ?_; (with_reducible refine (bonsailaw21_live.calls kj1  t401 _ A8.out).mono ?_); rintro e w9 ⟨rfl, hb⟩; refine ⟨_, rfl, ?_⟩; have n0_ := Aside0.mk (below_step (by repeat (first | (with_reducible first | exact HB.out | apply below_alloc | apply pw_below_drewN | apply below_drew1) | exact HB.out)) hb); clear HB; have HB := n0_; clear n0_; (try clear hb); (try clear hb2); (try clear hk); (try clear hi)))
        go_ret
        exact ⟨by first | rfl | (simp [errW_none, errW_some] <;> rfl) | (simp [*, errW_none, errW_some] <;> rfl), by repeat (first | (with_reducible first | exact HB.out | apply below_alloc | apply pw_below_drewN | apply below_drew1) | exact HB.out)⟩
      · replace c7 := Bool.eq_false_iff.mpr c7
        subst c7
        have H1 : (bonsailaw21_RowsSizes.l0 kj1 l0 (⟨#[]⟩ : ByteArray) 0) = some r := by rw [if_neg (show ¬ (false = true) by decide)] at H; exact H
        clear H
        have H := H1
        clear H1
        have H' := Aside0.mk H
        clear H
        go_wp2
        go_loopg [3, 4] kj1 (fun kq v3 v4 w' => ∃ (x3_2 : ByteArray) (x4_2 : Int), v3 = .string x3_2 ∧ v4 = .int .i64 x4_2 ∧ Aside0 (bonsailaw21_RowsSizes.l0 kq l0 x3_2 x4_2 = some r) ∧ Aside0 (kq ≤ kj1) ∧ Aside0 (Below w.heap.size w w'))
        case atStart => exact ⟨((⟨#[]⟩ : ByteArray)), (0), (by first | rfl | (simp; done) | (simp [*]; done)), (by first | rfl | (simp; done) | (simp [*]; done)), H', ⟨Nat.le_refl _⟩, ⟨by repeat (first | (with_reducible first | exact HB.out | apply below_alloc | apply pw_below_drewN | apply below_drew1) | exact HB.out)⟩⟩
        case round =>
          clear H'
          try clear p2
          try clear c4
          try clear c6
          try clear c7
          try clear c8
          try clear p2
          obtain ⟨x3_2, x4_2, rfl, rfl, HA, HK2, HB⟩ := hrel
          cases gk with
          | zero => exact absurd HA.out (by simp [bonsailaw21_RowsSizes.l0])
          | succ k2 =>
            have H := HA.out
            clear HA
            simp only [bonsailaw21_RowsSizes.l0] at H
            by_cases c10 : x4_2 < (l0.length : Int)
            · rw [if_pos c10] at H
              have c10b0 : decide (x4_2 < (l0.length : Int)) = true := decide_eq_true c10
              clear c10
              by_cases c11 : 0 ≤ x4_2
              · rw [if_pos c11] at H
                have c11b0 := eq_true c11
                have c11b1 : decide (0 ≤ x4_2) = true := decide_eq_true c11
                clear c11
                by_cases c12 : x4_2 ≤ (l0.length : Int)
                · rw [if_pos c12] at H
                  have c12b0 := eq_true c12
                  have c12b1 : decide (x4_2 ≤ (l0.length : Int)) = true := decide_eq_true c12
                  clear c12
                  obtain ⟨y408, hy408⟩ : ∃ y_ : List (S30), y_ = (l0.take (x4_2 : Int).toNat) := ⟨_, rfl⟩
                  replace H : ((rows_Encode.f k2 y408).bind fun bt412 => (if bt412.2 = 0 then (if (bt412.1.size : Int) = (wrap64 (6 + (x3_2.size : Int))) then (if 6 ≤ (bt412.1.size : Int) then (bonsailaw21_RowsSizes.j2 k2 l0 x3_2 x4_2 ((bt412.1.extract 6 bt412.1.size).toList != x3_2.toList)) else (none)) else (bonsailaw21_RowsSizes.j2 k2 l0 x3_2 x4_2 true)) else (bonsailaw21_RowsSizes.j2 k2 l0 x3_2 x4_2 true))) = some r := by first | (rw [hy408]; with_reducible exact H) | (have H2_ := (Option.bind_some _ _).symm.trans H; rw [hy408]; with_reducible exact H2_) | (have H2_ := (Option.bind_some _ _).symm.trans H; with_reducible exact H2_) | with_reducible exact H | (rw [hy408]; exact H) | exact H
                  have Ny408 := Aside0.mk hy408
                  clear hy408
                  replace H := Option.bind_eq_some_iff.mp H
                  obtain ⟨⟨t412, t413⟩, A130, H⟩ := H
                  replace H : (if t413 = 0 then (if (t412.size : Int) = (wrap64 (6 + (x3_2.size : Int))) then (if 6 ≤ (t412.size : Int) then (bonsailaw21_RowsSizes.j2 k2 l0 x3_2 x4_2 ((t412.extract 6 t412.size).toList != x3_2.toList)) else (none)) else (bonsailaw21_RowsSizes.j2 k2 l0 x3_2 x4_2 true)) else (bonsailaw21_RowsSizes.j2 k2 l0 x3_2 x4_2 true)) = some r := H
                  have A13 := Aside0.mk A130
                  clear A130
                  have HC14 := Aside0.mk H
                  clear H
                  have q15 : (x4_2 : Int) ≤ ((l0.length : Int) : Int) := of_decide_eq_true (by first | (with_reducible assumption) | assumption)
                  obtain ⟨i015, hi015, _, hsz15, _⟩ := info_parts info30
                  have hroom15 : l0.length ≤ c0 := HC0.out
                  have hC15 : Kd.C k30 _ A0 l0.length l0 := HR0.out
                  have hcut15 := cut_to (P := Try.prog) 22 30 .i64 Try.underlying22 hi015 A0 l0.length c0 x4_2 (of_decide_eq_true (by first | (with_reducible assumption) | assumption)) q15 hroom15
                  have hr15 := Kd.C_take (m := (x4_2 : Int).toNat) hC15 (by omega)
                  have hy15 : y408.length = (x4_2 : Int).toNat := (by rw [Ny408.out, List.length_take]; omega)
                  rw [← Ny408.out] at hr15
                  rw [← hy15] at hcut15
                  have HR411 := Aside0.mk hr15
                  have HC411 := Aside0.mk (show y408.length ≤ c0 from by omega)
                  clear hr15 hC15 hroom15 hi015 hsz15
                  have KY15 := Aside0.mk hy15
                  clear hy15
                  replace q15 := eq_true q15
                  go_upto_region 8 with (first | ((with_reducible refine gate_callee (f := 11) rfl ?_); refine goesL_ (some 29) rfl rfl Try.func11 (by kernel_rfl) rfl #[.slice A0 y408.length c0] rfl (by (try simp only [List.map_toArray, List.map_cons, List.map_nil]); first | done | rfl | (simp only [List.length_drop, List.length_take]; rfl)) ?_; (with_reducible refine (rows_Encode.calls k2 _ _ y408 t412 t413 _ ?side1 ?side2 A13.out).mono ?_); (case side1 => repeat (first | exact (Kd.C_below HR411.out HB.out) | (with_reducible refine Kd.C_alloc ?_ _) | (with_reducible refine Kd.C_drewN ?_ _) | (with_reducible refine Kd.C_drew ?_))); (case side2 => exact HC411.out); rintro e w16 ⟨rfl, hb⟩; refine ⟨_, rfl, ?_⟩; have n0_ := Aside0.mk (below_step (by repeat (first | (with_reducible first | exact HB.out | apply below_alloc | apply pw_below_drewN | apply below_drew1) | exact HB.out)) hb); clear HB; have HB := n0_; clear n0_; (try clear hb); (try clear hb2); (try clear hk); (try clear hi)))
                  (try simp only [Act.put, List.setIfInBounds_toArray, List.set_cons_zero, List.set_cons_succ])
                  go_cut [47] (fun v47 wc => ∃ (kq : Nat) (x47_13 : Bool), v47 = .bool x47_13 ∧ Aside0 (bonsailaw21_RowsSizes.j2 kq l0 x3_2 x4_2 x47_13 = some r) ∧ Aside0 (kq ≤ k2) ∧ Aside0 (Below w.heap.size w wc))
                  case first =>
                    have H := HC14.out
                    clear HC14
                    by_cases c17 : t413 = 0
                    · rw [if_pos c17] at H
                      have c17b0 : (t413 == 0) = true := beq_iff_eq.mpr c17
                      have c17b1 : (t413 != 0) = false := bne_eq_false_iff_eq.mpr c17
                      clear c17
                      (first | rw [c17b0] | (simp only [i64_w, i32_w]; rw [c17b0]) | skip)
                      by_cases c18 : (t412.size : Int) = (wrap64 (6 + (x3_2.size : Int)))
                      · rw [if_pos c18] at H
                        have c18b0 : ((t412.size : Int) == (wrap64 (6 + (x3_2.size : Int)))) = true := beq_iff_eq.mpr c18
                        have c18b1 : ((t412.size : Int) != (wrap64 (6 + (x3_2.size : Int)))) = false := bne_eq_false_iff_eq.mpr c18
                        clear c18
                        by_cases c19 : 6 ≤ (t412.size : Int)
                        · rw [if_pos c19] at H
                          have c19b0 := eq_true c19
                          have c19b1 : decide (6 ≤ (t412.size : Int)) = true := decide_eq_true c19
                          clear c19
                          have H' := Aside0.mk H
                          clear H
                          go_wp2
                          go_meet
                          case rel => exact ⟨_, (((t412.extract 6 t412.size).toList != x3_2.toList)), (by first | rfl | (simp; done) | (simp [*]; done)), H', ⟨by have := HJ1.out; have := HK2.out; first | omega | exact Nat.le_refl _⟩, ⟨by repeat (first | (with_reducible first | exact HB.out | apply below_alloc | apply pw_below_drewN | apply below_drew1) | exact HB.out)⟩⟩
                        · rw [if_neg c19] at H
                          exact absurd H (by simp)
                      · rw [if_neg c18] at H
                        have c18b0 : ((t412.size : Int) == (wrap64 (6 + (x3_2.size : Int)))) = false := beq_eq_false_iff_ne.mpr c18
                        have c18b1 : ((t412.size : Int) != (wrap64 (6 + (x3_2.size : Int)))) = true := bne_iff_ne.mpr c18
                        have H' := Aside0.mk H
                        clear H
                        go_wp2
                        go_meet
                        case rel => exact ⟨_, (true), (by first | rfl | (simp; done) | (simp [*]; done)), H', ⟨by have := HJ1.out; have := HK2.out; first | omega | exact Nat.le_refl _⟩, ⟨by repeat (first | (with_reducible first | exact HB.out | apply below_alloc | apply pw_below_drewN | apply below_drew1) | exact HB.out)⟩⟩
                    · rw [if_neg c17] at H
                      have c17b0 : (t413 == 0) = false := beq_eq_false_iff_ne.mpr c17
                      have c17b1 : (t413 != 0) = true := bne_iff_ne.mpr c17
                      (first | rw [c17b0] | (simp only [i64_w, i32_w]; rw [c17b0]) | skip)
                      have H' := Aside0.mk H
                      clear H
                      go_wp2
                      go_meet
                      case rel => exact ⟨_, (true), (by first | rfl | (simp; done) | (simp [*]; done)), H', ⟨by have := HJ1.out; have := HK2.out; first | omega | exact Nat.le_refl _⟩, ⟨by repeat (first | (with_reducible first | exact HB.out | apply below_alloc | apply pw_below_drewN | apply below_drew1) | exact HB.out)⟩⟩
                  case rest =>
                    clear HC14
                    try clear c1
                    try clear q1
                    try clear p2
                    try clear c4
                    try clear c6
                    try clear p6
                    try clear c7
                    try clear c8
                    try clear c10
                    try clear c10b0
                    try clear c11
                    try clear c11b0
                    try clear c11b1
                    try clear c12
                    try clear c12b0
                    try clear c12b1
                    try clear q15
                    try clear c17
                    try clear c17b0
                    try clear c17b1
                    try clear c18
                    try clear c18b0
                    try clear c18b1
                    try clear c19
                    try clear c19b0
                    try clear c19b1
                    try clear p2
                    try clear q15
                    obtain ⟨kq, x47_13, rfl, HA, HJ13, HB⟩ := hcut
                    cases kq with
                    | zero => exact absurd HA.out (by simp [bonsailaw21_RowsSizes.j2])
                    | succ kj13 =>
                      have H := HA.out
                      clear HA
                      simp only [bonsailaw21_RowsSizes.j2] at H
                      by_cases c20 : x47_13 = true
                      · subst c20
                        have H1 : (none) = some r := by rw [if_pos rfl] at H; exact H
                        clear H
                        have H := H1
                        clear H1
                        exact absurd H (by simp)
                      · replace c20 := Bool.eq_false_iff.mpr c20
                        subst c20
                        have H1 : (if 0 ≤ x4_2 then (if x4_2 < (l0.length : Int) then ((rows_One.f kj13 ((rd_T30 l0 x4_2).f0.f0) ((rd_T30 l0 x4_2).f0.f1) ((rd_T30 l0 x4_2).f1) ((rd_T30 l0 x4_2).f2) ((rd_T30 l0 x4_2).f3) ((rd_T30 l0 x4_2).f4)).bind fun t415 => (if (t415.size : Int) < 13 then (none) else (if (t415.size : Int) > 117 then (none) else (if x3_2.size + t415.size ≤ 9223372036854775807 then (bonsailaw21_RowsSizes.l0 kj13 l0 (x3_2 ++ t415) (wrap64 (x4_2 + 1))) else (none))))) else (none)) else (none)) = some r := by rw [if_neg (show ¬ (false = true) by decide)] at H; exact H
                        clear H
                        have H := H1
                        clear H1
                        by_cases c21 : 0 ≤ x4_2
                        · rw [if_pos c21] at H
                          have c21b0 : decide (0 ≤ x4_2) = true := decide_eq_true c21
                          clear c21
                          by_cases c22 : x4_2 < (l0.length : Int)
                          · rw [if_pos c22] at H
                            have c22b0 : decide (x4_2 < (l0.length : Int)) = true := decide_eq_true c22
                            clear c22
                            replace H := Option.bind_eq_some_iff.mp H
                            obtain ⟨t415, A230, H⟩ := H
                            replace H : (if (t415.size : Int) < 13 then (none) else (if (t415.size : Int) > 117 then (none) else (if x3_2.size + t415.size ≤ 9223372036854775807 then (bonsailaw21_RowsSizes.l0 kj13 l0 (x3_2 ++ t415) (wrap64 (x4_2 + 1))) else (none)))) = some r := H
                            have A23 := Aside0.mk A230
                            clear A230
                            by_cases c24 : (t415.size : Int) < 13
                            · rw [if_pos c24] at H
                              exact absurd H (by simp)
                            · rw [if_neg c24] at H
                              have c24b0 : decide ((t415.size : Int) < 13) = false := decide_eq_false c24
                              have c24b1 : decide (t415.size < 13) = false := decide_eq_false (by omega)
                              clear c24
                              by_cases c25 : (t415.size : Int) > 117
                              · rw [if_pos c25] at H
                                exact absurd H (by simp)
                              · rw [if_neg c25] at H
                                have c25b0 : decide (117 < (t415.size : Int)) = false := decide_eq_false c25
                                have c25b1 : decide (117 < t415.size) = false := decide_eq_false (by omega)
                                clear c25
                                by_cases c26 : x3_2.size + t415.size ≤ 9223372036854775807
                                · rw [if_pos c26] at H
                                  have c26b0 := eq_true c26
                                  have c26b1 : decide (x3_2.size + t415.size ≤ 9223372036854775807) = true := decide_eq_true c26
                                  try have c26b2 : (9223372036854775807 < x3_2.size + t415.size) = False := eq_false (Nat.not_lt.2 c26)
                                  try (have c26b3 := c26b2; simp only [ByteArray.size_append] at c26b3)
                                  clear c26
                                  have H' := Aside0.mk H
                                  clear H
                                  have p414 : 0 ≤ (x4_2 : Int) := of_decide_eq_true (by first | (with_reducible assumption) | assumption)
                                  have q414 : x4_2 < (l0.length : Int) := of_decide_eq_true (by first | (with_reducible assumption) | assumption)
                                  obtain ⟨ad414, bv414_5, e414, hx414_0, hx414_1, hx414_2, hx414_3, hx414_4, hx414_5, bq414_5⟩ := at_T30 HR0.out x4_2 p414 q414
                                  cases e414
                                  replace hx414_0 := (HB.out.cell (World.block_lt_of_cell? w _ hx414_0)).trans hx414_0
                                  replace hx414_1 := (HB.out.cell (World.block_lt_of_cell? w _ hx414_1)).trans hx414_1
                                  replace hx414_2 := (HB.out.cell (World.block_lt_of_cell? w _ hx414_2)).trans hx414_2
                                  replace hx414_3 := (HB.out.cell (World.block_lt_of_cell? w _ hx414_3)).trans hx414_3
                                  replace hx414_4 := (HB.out.cell (World.block_lt_of_cell? w _ hx414_4)).trans hx414_4
                                  replace hx414_5 := (HB.out.cell (World.block_lt_of_cell? w _ hx414_5)).trans hx414_5
                                  replace p414 := eq_true p414
                                  replace q414 := eq_true q414
                                  go_wp2_with (first | ((with_reducible refine gate_callee (f := 9) rfl ?_); refine goesL_ (some 52) rfl rfl Try.func9 (by kernel_rfl) rfl #[.agg #[.int .i64 ((rd_T30 l0 x4_2).f0.f0), .int .i64 ((rd_T30 l0 x4_2).f0.f1), .int .i64 ((rd_T30 l0 x4_2).f1), .int .i64 ((rd_T30 l0 x4_2).f2), .string ((rd_T30 l0 x4_2).f3), .float .f64 bv414_5]] rfl (by (try simp only [List.map_toArray, List.map_cons, List.map_nil]); first | done | rfl | (simp only [List.length_drop, List.length_take]; rfl)) ?_; (with_reducible refine (rows_One.calls kj13 ((rd_T30 l0 x4_2).f0.f0) ((rd_T30 l0 x4_2).f0.f1) ((rd_T30 l0 x4_2).f1) ((rd_T30 l0 x4_2).f2) ((rd_T30 l0 x4_2).f3) _ ((rd_T30 l0 x4_2).f4) t415 _ ?side1 A23.out).mono ?_); (case side1 => exact (by first | assumption | exact FB_lit _ _ rfl | exact FB_int _ | simpa using (by assumption))); rintro e w27 ⟨rfl, hb⟩; refine ⟨_, rfl, ?_⟩; have n0_ := Aside0.mk (below_step (by repeat (first | (with_reducible first | exact HB.out | apply below_alloc | apply pw_below_drewN | apply below_drew1) | exact HB.out)) hb); clear HB; have HB := n0_; clear n0_; (try clear hb); (try clear hb2); (try clear hk); (try clear hi)))
                                  go_roundg kj13
                                  case measure => have := HJ1.out; have := HK2.out; have := HJ13.out; omega
                                  case rel => exact ⟨(x3_2 ++ t415), (wrap64 (x4_2 + 1)), (by first | rfl | (simp; done) | (simp [*]; done)), (by first | rfl | (simp; done) | (simp [*]; done)), H', ⟨by have := HJ1.out; have := HK2.out; have := HJ13.out; omega⟩, ⟨by repeat (first | (with_reducible first | exact HB.out | apply below_alloc | apply pw_below_drewN | apply below_drew1) | exact HB.out)⟩⟩
                                · rw [if_neg c26] at H
                                  exact absurd H (by simp)
                          · rw [if_neg c22] at H
                            exact absurd H (by simp)
                        · rw [if_neg c21] at H
                          exact absurd H (by simp)
                · rw [if_neg c12] at H
                  exact absurd H (by simp)
              · rw [if_neg c11] at H
                exact absurd H (by simp)
            · rw [if_neg c10] at H
              have c10b0 : decide (x4_2 < (l0.length : Int)) = false := decide_eq_false c10
              clear c10
              replace H := Option.bind_eq_some_iff.mp H
              obtain ⟨⟨t402, t403⟩, A280, H⟩ := H
              replace H : (if t403 = 0 then ((some (([((l0.length : Int)) % 256] : List Int) : List Int)).bind fun y404 => (if 5 + (strOfNums y404).size ≤ 9223372036854775807 then (if ((⟨#[66, 78, 83, 73, 1]⟩ : ByteArray) ++ (strOfNums y404)).size + x3_2.size ≤ 9223372036854775807 then (if t402.toList = (((⟨#[66, 78, 83, 73, 1]⟩ : ByteArray) ++ (strOfNums y404)) ++ x3_2).toList then ((bonsailaw21_live.f k2).bind fun t407 => (some t407)) else (none)) else (none)) else (none))) else (none)) = some r := H
              have A28 := Aside0.mk A280
              clear A280
              by_cases c29 : t403 = 0
              · rw [if_pos c29] at H
                have c29b0 : (t403 == 0) = true := beq_iff_eq.mpr c29
                have c29b1 : (t403 != 0) = false := bne_eq_false_iff_eq.mpr c29
                clear c29
                obtain ⟨y404, hy404⟩ : ∃ y_ : List Int, y_ = (([((l0.length : Int)) % 256] : List Int)) := ⟨_, rfl⟩
                replace H : (if 5 + (strOfNums y404).size ≤ 9223372036854775807 then (if ((⟨#[66, 78, 83, 73, 1]⟩ : ByteArray) ++ (strOfNums y404)).size + x3_2.size ≤ 9223372036854775807 then (if t402.toList = (((⟨#[66, 78, 83, 73, 1]⟩ : ByteArray) ++ (strOfNums y404)) ++ x3_2).toList then ((bonsailaw21_live.f k2).bind fun t407 => (some t407)) else (none)) else (none)) else (none)) = some r := by first | (rw [hy404]; with_reducible exact H) | (have H2_ := (Option.bind_some _ _).symm.trans H; rw [hy404]; with_reducible exact H2_) | (have H2_ := (Option.bind_some _ _).symm.trans H; with_reducible exact H2_) | with_reducible exact H | (rw [hy404]; exact H) | exact H
                have Ny404 := Aside0.mk hy404
                clear hy404
                by_cases c30 : 5 + (strOfNums y404).size ≤ 9223372036854775807
                · rw [if_pos c30] at H
                  have c30b0 := eq_true c30
                  have c30b1 : decide (5 + (strOfNums y404).size ≤ 9223372036854775807) = true := decide_eq_true c30
                  try have c30b2 : (9223372036854775807 < 5 + (strOfNums y404).size) = False := eq_false (Nat.not_lt.2 c30)
                  try (have c30b3 := c30b2; simp only [ByteArray.size_append] at c30b3)
                  clear c30
                  by_cases c31 : ((⟨#[66, 78, 83, 73, 1]⟩ : ByteArray) ++ (strOfNums y404)).size + x3_2.size ≤ 9223372036854775807
                  · rw [if_pos c31] at H
                    have c31b0 := eq_true c31
                    have c31b1 : decide (((⟨#[66, 78, 83, 73, 1]⟩ : ByteArray) ++ (strOfNums y404)).size + x3_2.size ≤ 9223372036854775807) = true := decide_eq_true c31
                    try have c31b2 : (9223372036854775807 < ((⟨#[66, 78, 83, 73, 1]⟩ : ByteArray) ++ (strOfNums y404)).size + x3_2.size) = False := eq_false (Nat.not_lt.2 c31)
                    try (have c31b3 := c31b2; simp only [ByteArray.size_append] at c31b3)
                    try rw [show (⟨#[66, 78, 83, 73, 1]⟩ : ByteArray).size = 5 from rfl] at c31b3
                    clear c31
                    by_cases c32 : t402.toList = (((⟨#[66, 78, 83, 73, 1]⟩ : ByteArray) ++ (strOfNums y404)) ++ x3_2).toList
                    · rw [if_pos c32] at H
                      have c32b0 : (t402.toList == (((⟨#[66, 78, 83, 73, 1]⟩ : ByteArray) ++ (strOfNums y404)) ++ x3_2).toList) = true := beq_iff_eq.mpr c32
                      have c32b1 : (t402.toList != (((⟨#[66, 78, 83, 73, 1]⟩ : ByteArray) ++ (strOfNums y404)) ++ x3_2).toList) = false := bne_eq_false_iff_eq.mpr c32
                      clear c32
                      replace H := Option.bind_eq_some_iff.mp H
                      obtain ⟨t407, A330, H⟩ := H
                      replace H : (some t407) = some r := H
                      have A33 := Aside0.mk A330
                      clear A330
                      obtain rfl := Option.some.inj H
                      go_wp2_with (first | ((with_reducible refine gate_callee (f := 11) rfl ?_); refine goesL_ (some 66) rfl rfl Try.func11 (by kernel_rfl) rfl #[.slice A0 l0.length c0] rfl (by (try simp only [List.map_toArray, List.map_cons, List.map_nil]); first | done | rfl | (simp only [List.length_drop, List.length_take]; rfl)) ?_; (with_reducible refine (rows_Encode.calls k2 _ _ l0 t402 t403 _ ?side1 ?side2 A28.out).mono ?_); (case side1 => repeat (first | exact (Kd.C_below HR0.out HB.out) | (with_reducible refine Kd.C_alloc ?_ _) | (with_reducible refine Kd.C_drewN ?_ _) | (with_reducible refine Kd.C_drew ?_))); (case side2 => exact HC0.out); rintro e w34 ⟨rfl, hb⟩; refine ⟨_, rfl, ?_⟩; have n0_ := Aside0.mk (below_step (by repeat (first | (with_reducible first | exact HB.out | apply below_alloc | apply pw_below_drewN | apply below_drew1) | exact HB.out)) hb); clear HB; have HB := n0_; clear n0_; (try clear hb); (try clear hb2); (try clear hk); (try clear hi)) | ((with_reducible refine gate_dst (N := 76) rfl ?_); (try (refine gate_guard (by rfl) ?_; dsimp only)); refine Kd.R_lit (Kd.int .u8) _ 5 ?hg (N := 76) ?hd (xs := ([((l0.length : Int)) % 256] : List Int)) (inner := [.int .u8 (((l0.length : Int)) % 256)]) (ok := fun _ => True) (okp := fun _ => True) ?hr ?hp (fun _ hk => hk) trivial (Below.refl _ _) (Nat.le_refl _) (by simp) ?_; (case hd => rfl); (case hg => rfl); (case hr => first | (go_simp; done) | (go_simp; rfl)); (case hp => exact (Reps.one (show Kd.M (Kd.int .u8) _ _ _ (((l0.length : Int)) % 256) [.int .u8 (((l0.length : Int)) % 256)] from rfl) (Reps.none _ _))); intro v405 w35 ho36 hb hg_ hnew_; clear hg_ hnew_; (first | rw [← Ny404.out] at ho36 | (simp only [Int.reduceToNat] at ho36; rw [← Ny404.out] at ho36)); have n0_ := Aside0.mk (Kd.R_lower ho36 (below_size (by repeat (first | (with_reducible first | exact HB.out | apply below_alloc | apply pw_below_drewN | apply below_drew1) | exact HB.out)))); have n1_ := Aside0.mk (below_step (by repeat (first | (with_reducible first | exact HB.out | apply below_alloc | apply pw_below_drewN | apply below_drew1) | exact HB.out)) hb); clear HB; have HO406 := n0_; have HB := n1_; clear n0_ n1_; clear hb ho36; have hcv37 := own_string (P := Try.prog) Try.underlying42 Try.underlying5 Try.underlying9 (Kd.own_of_R HO406.out)) | (go_at_call 8; (with_reducible refine (bonsailaw21_live.calls k2  t407 _ A33.out).mono ?_); rintro e w38 ⟨rfl, hb⟩; have n0_ := Aside0.mk (Kd.R_below (by (with_reducible repeat (first | apply Kd.R_alloc | apply Kd.R_drewN | apply Kd.R_drew)); exact HO406.out) hb); have n1_ := Aside0.mk (below_step (by repeat (first | (with_reducible first | exact HB.out | apply below_alloc | apply pw_below_drewN | apply below_drew1) | exact HB.out)) hb); clear HO406; clear HB; have HO406 := n0_; have HB := n1_; clear n0_ n1_; (try clear hb); (try clear hb2); (try clear hk); (try clear hi)))
                      go_ret
                      exact ⟨by first | rfl | (simp [errW_none, errW_some] <;> rfl) | (simp [*, errW_none, errW_some] <;> rfl), by repeat (first | (with_reducible first | exact HB.out | apply below_alloc | apply pw_below_drewN | apply below_drew1) | exact HB.out)⟩
                    · rw [if_neg c32] at H
                      exact absurd H (by simp)
                  · rw [if_neg c31] at H
                    exact absurd H (by simp)
                · rw [if_neg c30] at H
                  exact absurd H (by simp)
              · rw [if_neg c29] at H
                exact absurd H (by simp)
end Go.Proofs.Ytfgnjndfnijjoaa.Print
end
section
namespace Go.Proofs.Ytfgnjndfnijjoaa.RowsC
set_option linter.unusedSimpArgs false
set_option linter.unusedVariables false
open Go.RowKit Go.Proofs.Ytfgnjndfnijjoaa.Print Go.Proofs.YtfgnjndfnijjoaaW.PrintWords Go.Proofs.YtfgnjndfnijjoaaW.PrintLast Go.Proofs.YtfgnjndfnijjoaaW.PrintMore Go.Proofs.Ytfgnjndfnijjoaa.LibA Go.Proofs.Ytfgnjndfnijjoaa.LibB Go.Proofs.Ytfgnjndfnijjoaa.LibC Go.Proofs.Ytfgnjndfnijjoaa.LibD Go.Proofs.Ytfgnjndfnijjoaa.LibE Go.Proofs.Ytfgnjndfnijjoaa.LibF Go.Proofs.Ytfgnjndfnijjoaa.LibG Go.Proofs.Ytfgnjndfnijjoaa.RowsA Go.Proofs.Ytfgnjndfnijjoaa.RowsB
theorem flat_app (l r : List Mv) : flat (l ++ r) = flat l ++ flat r := by
  induction l with
  | nil => simp [flat]
  | cons m l ih => simp only [List.cons_append, flat, ih, ByteArray.append_assoc]
end Go.Proofs.Ytfgnjndfnijjoaa.RowsC
end
section
namespace Go.Proofs.Ytfgnjndfnijjoaa.Pure
set_option linter.unusedSimpArgs false
open Go.RowKit Go.Proofs.Ytfgnjndfnijjoaa.Print Go.Proofs.YtfgnjndfnijjoaaW.PrintWords Go.Proofs.YtfgnjndfnijjoaaW.PrintLast Go.Proofs.YtfgnjndfnijjoaaW.PrintMore Go.Proofs.Ytfgnjndfnijjoaa.LibA Go.Proofs.Ytfgnjndfnijjoaa.LibB Go.Proofs.Ytfgnjndfnijjoaa.LibC Go.Proofs.Ytfgnjndfnijjoaa.LibD Go.Proofs.Ytfgnjndfnijjoaa.LibE Go.Proofs.Ytfgnjndfnijjoaa.LibF Go.Proofs.Ytfgnjndfnijjoaa.LibG Go.Proofs.Ytfgnjndfnijjoaa.RowsA Go.Proofs.Ytfgnjndfnijjoaa.RowsB Go.Proofs.Ytfgnjndfnijjoaa.RowsC Go.Proofs.Ytfgnjndfnijjoaa.RowsL Go.Proofs.Ytfgnjndfnijjoaa.RowsD Go.Proofs.Ytfgnjndfnijjoaa.RowsE Go.Proofs.Ytfgnjndfnijjoaa.RowsF
theorem putB_small (n : Int) (h : n < 128) : putB n = strOfNums [n] := by
  unfold putB putL
  rw [if_neg (by omega)]
theorem may_take {l : List Mv} (h : MayP l) (i : Nat) (hi : i ≤ l.length) : MayP (l.take i) := by
  refine ⟨by rw [List.length_take]; have := h.few; omega, fun m hm => h.one m (List.mem_of_mem_take hm), fun j h0 hj => ?_⟩
  rw [List.length_take] at hj
  have e : ∀ q : Nat, q < i → rdM (l.take i) (q : Int) = rdM l q := fun q hq => by
    rw [rd_mem (by rw [List.length_take]; omega), rd_mem (by omega), List.getElem_take]
  rw [rd_pred _ _ h0, e _ (by omega), e _ (by omega), ← rd_pred _ _ h0]
  exact h.up j h0 (by omega)
theorem one_range {m : Mv} (h : OneP m) : 13 ≤ (oneB m).size ∧ (oneB m).size ≤ 117 := by
  have h1 := headB_size m
  have h2 := h.nm
  rw [oneB_size, putB_small _ (by omega), strOfNums_size]
  simp only [List.length_singleton]
  omega
theorem sizesL (l : List Mv) (hl : l.length ≤ 40) (hm : MayP l) (hs : ∀ m ∈ l, Sane m) (d : Nat) : ∀ i : Nat, i + d = l.length → Ev (fun k => bonsailaw21_RowsSizes.l0 k l (flat (l.take i)) i) true := by
  have hn := may_names hm
  induction d with
  | zero =>
    intro i h
    have hfs := flat_size l hn
    refine Ev.succ ?_
    simp only [bonsailaw21_RowsSizes.l0, if_neg (show ¬ (i : Int) < (l.length : Int) by omega)]
    refine Ev.bind (encode_is l (by omega) hs) ?_
    rw [List.take_of_length_le (by omega)]
    simp only [if_pos hm, if_true, Option.bind_some, strOfNums_size, List.length_singleton, if_pos (show 5 + 1 ≤ 9223372036854775807 by omega)]
    have hz : ((⟨#[66, 78, 83, 73, 1]⟩ : ByteArray) ++ strOfNums [(l.length : Int) % 256]).size + (flat l).size ≤ 9223372036854775807 := by
      rw [ByteArray.size_append, strOfNums_size]
      have : (⟨#[66, 78, 83, 73, 1]⟩ : ByteArray).size = 5 := rfl
      simp only [List.length_singleton]
      omega
    simp only [if_pos hz]
    have e : (fileB l).toList = (((⟨#[66, 78, 83, 73, 1]⟩ : ByteArray) ++ strOfNums [(l.length : Int) % 256]) ++ flat l).toList := by
      rw [Int.emod_eq_of_lt (by omega) (by omega)]
      unfold fileB
      rw [putB_small _ (by omega)]
      rfl
    simp only [if_pos e]
    exact Ev.bind live_ev (Ev.now _)
  | succ d ih =>
    intro i h
    have hlt : i < l.length := by omega
    have hmem : rdM l i ∈ l := by rw [rd_mem hlt]; exact List.getElem_mem hlt
    have ht := may_take hm i (by omega)
    have hfs := flat_size (l.take i) (may_names ht)
    have hlen : (l.take i).length = i := by rw [List.length_take]; omega
    refine Ev.succ ?_
    simp only [bonsailaw21_RowsSizes.l0, if_pos (show (i : Int) < (l.length : Int) by omega), if_pos (show (0 : Int) ≤ (i : Int) by omega), if_pos (show (i : Int) ≤ (l.length : Int) by omega), Int.toNat_natCast]
    refine Ev.bind (encode_is (l.take i) (by omega) (fun m hm => hs m (List.mem_of_mem_take hm))) ?_
    have hz : (fileB (l.take i)).size = 6 + (flat (l.take i)).size := by
      unfold fileB
      rw [ByteArray.size_append, ByteArray.size_append, beginB_size, putB_small _ (by omega), strOfNums_size]
      simp only [List.length_singleton]
    have hcut : (fileB (l.take i)).extract 6 (fileB (l.take i)).size = flat (l.take i) := by
      have := app_cut (beginB ++ putB (l.take i).length) (flat (l.take i))
      rw [show (beginB ++ putB (l.take i).length).size = 6 by rw [ByteArray.size_append, beginB_size, putB_small _ (by omega), strOfNums_size]; rfl] at this
      exact this
    simp only [if_pos ht, if_true]
    rw [hz]
    simp only [w64 (show -9223372036854775808 ≤ 6 + ((flat (l.take i)).size : Int) by omega) (by omega), if_pos (show (((6 + (flat (l.take i)).size : Nat)) : Int) = 6 + ((flat (l.take i)).size : Int) by omega), if_pos (show (6 : Int) ≤ ((6 + (flat (l.take i)).size : Nat) : Int) by omega)]
    rw [← hz, hcut, show ((flat (l.take i)).toList != (flat (l.take i)).toList) = false by simp]
    refine Ev.succ ?_
    have hr := one_range (hm.one _ hmem)
    simp only [bonsailaw21_RowsSizes.j2, Bool.false_eq_true, if_false, if_pos (show (0 : Int) ≤ (i : Int) by omega), if_pos (show (i : Int) < (l.length : Int) by omega)]
    refine Ev.bind (rowsOne_is (rdM l i) (hs _ hmem) (by have := hn _ hmem; omega)).1 ?_
    simp only [if_neg (show ¬ ((oneB (rdM l i)).size : Int) < 13 by omega), if_neg (show ¬ ((oneB (rdM l i)).size : Int) > 117 by omega), if_pos (show (flat (l.take i)).size + (oneB (rdM l i)).size ≤ 9223372036854775807 by omega), w64 (show -9223372036854775808 ≤ (i : Int) + 1 by omega) (by omega)]
    have := ih (i + 1) (by omega)
    rw [List.take_succ_eq_append_getElem hlt, flat_app, ← rd_mem hlt] at this
    simp only [flat, ByteArray.append_empty] at this
    exact this
theorem RowsSizes : ∀ (l0 : List Print.S30), l0.length ≤ maxLen → (∀ x ∈ l0, (((Lit.int .i64 x.f0.f0).wf = true ∧ (Lit.int .i64 x.f0.f1).wf = true) ∧ (Lit.int .i64 x.f1).wf = true ∧ (Lit.int .i64 x.f2).wf = true ∧ x.f3.size ≤ maxLen ∧ (∃ b, FB b x.f4))) → ∃ k, bonsailaw21_RowsSizes.f k l0 = some true := by
  intro l hl hq
  refine Ev.rounds (g := fun k => bonsailaw21_RowsSizes.f k l) ?_
  unfold bonsailaw21_RowsSizes.f
  obtain ⟨b, hb, hb2⟩ := few_is l 40 hl
  refine Ev.bind hb ?_
  have hlive : Ev (fun k => bonsailaw21_RowsSizes.j0 k l true) true := by
    refine Ev.succ ?_
    simp only [bonsailaw21_RowsSizes.j0, if_true]
    exact Ev.bind live_ev (Ev.now _)
  cases b with
  | false => simp only [Bool.false_eq_true, if_false]; exact hlive
  | true =>
    obtain ⟨h1, h2⟩ := hb2 rfl
    simp only [if_true]
    refine Ev.bind (refMay_is l) ?_
    by_cases hm : MayP l
    · simp only [decide_eq_true hm, Bool.not_true]
      refine Ev.succ ?_
      simp only [bonsailaw21_RowsSizes.j0, Bool.false_eq_true, if_false]
      exact sizesL l (by omega) hm (fun m hm => sane_of (hq m hm) (h2 m hm)) l.length 0 (by omega)
    · simp only [decide_eq_false hm, Bool.not_false]
      exact hlive
end Go.Proofs.Ytfgnjndfnijjoaa.Pure
end
