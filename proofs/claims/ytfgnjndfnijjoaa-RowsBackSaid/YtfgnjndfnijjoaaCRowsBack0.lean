/- Part 0 of what RowsSizes, RowsBack stands on: merged by a program of this session out of its texts. -/
import Derived.Test.YtfgnjndfnijjoaaCSRowsSizes5
section
namespace Go.Proofs.Ytfgnjndfnijjoaa.Print
open Go.RowKit Go.Proofs.YtfgnjndfnijjoaaW.PrintWords Go.Proofs.YtfgnjndfnijjoaaW.PrintLast Go.Proofs.YtfgnjndfnijjoaaW.PrintMore
attribute [local go_sem] max2_int min2_int max_two min_two max_three min_three max_four min_four
attribute [local go_sem] run_store_float
set_option linter.unusedVariables false
set_option linter.unusedSimpArgs false
def bonsairef11_Version.j0 : Nat → ByteArray → Bool → Option (Int × Int)
  | 0, _, _ => none
  | k + 1, x0, x11 => if x11 = true then (some (0, 7)) else (if (x0.size : Int) < 5 then (some (0, 2)) else (if 4 < (x0.size : Int) then (some (wrap64 (bt x0 4), 0)) else (none)))
def bonsairef11_Version.f (k : Nat) (a0 : ByteArray) : Option (Int × Int) := if (a0.size : Int) < 4 then (bonsairef11_Version.j0 k a0 true) else (if 4 ≤ (a0.size : Int) then (bonsairef11_Version.j0 k a0 ((a0.extract 0 4).toList != ([66, 78, 83, 73] : List UInt8))) else (none))
end Go.Proofs.Ytfgnjndfnijjoaa.Print
end
section
namespace Go.Proofs.Ytfgnjndfnijjoaa.Print
open Go.RowKit Go.Proofs.YtfgnjndfnijjoaaW.PrintWords Go.Proofs.YtfgnjndfnijjoaaW.PrintLast Go.Proofs.YtfgnjndfnijjoaaW.PrintMore
attribute [local go_sem] max2_int min2_int max_two min_two max_three min_three max_four min_four
attribute [local go_sem] run_store_float
set_option linter.unusedVariables false
set_option linter.unusedSimpArgs false
def bonsairef21_Decode.f (k : Nat) (a0 : ByteArray) : Option ((List (S30)) × Int) := (bonsairef11_Version.f k a0).bind fun bt308 => (if bt308.2 = 0 then (if bt308.1 = 1 then ((bonsairef03_Reader_Num.f k a0 5 0).bind fun bt311 => (if bt311.2.2.2 = 0 then (if bt311.1 > 2000 then (some (([] : List (S30)), 10)) else (bonsairef21_Decode.l0 k a0 bt311.1 ([] : List (S30)) 0 bt311.2.1 bt311.2.2.1 bt311.2.2.2)) else (some (([] : List (S30)), bt311.2.2.2)))) else (some (([] : List (S30)), 8))) else (some (([] : List (S30)), bt308.2)))
end Go.Proofs.Ytfgnjndfnijjoaa.Print
end
section
namespace Go.Proofs.Ytfgnjndfnijjoaa.Print
open Go.RowKit Go.Proofs.YtfgnjndfnijjoaaW.PrintWords Go.Proofs.YtfgnjndfnijjoaaW.PrintLast Go.Proofs.YtfgnjndfnijjoaaW.PrintMore
attribute [local go_sem] max2_int min2_int max_two min_two max_three min_three max_four min_four
attribute [local go_sem] run_store_float
set_option linter.unusedVariables false
set_option linter.unusedSimpArgs false
mutual
def bonsailaw21_RowsBack.j0 : Nat → List (S30) → ByteArray → Int → Bool → Option (Bool)
  | 0, _, _, _, _ => none
  | k + 1, x0, x1, x2, x26 => if x26 = true then ((bonsailaw21_live.f k).bind fun t376 => (some t376)) else ((rows_Encode.f k x0).bind fun bt377 => ((bonsairef13_May.f k x0).bind fun t379 => (if ((bt377.2 == 0) != t379) = true then (bonsailaw21_RowsBack.j1 k x0 x1 x2 bt377.1 bt377.2 true) else (if bt377.2 = 0 then (bonsailaw21_RowsBack.j1 k x0 x1 x2 bt377.1 bt377.2 false) else (bonsailaw21_RowsBack.j1 k x0 x1 x2 bt377.1 bt377.2 (bt377.1.toList != ([] : List UInt8)))))))
def bonsailaw21_RowsBack.j1 : Nat → List (S30) → ByteArray → Int → ByteArray → Int → Bool → Option (Bool)
  | 0, _, _, _, _, _, _ => none
  | k + 1, x0, x1, x2, x7, x8, x45 => if x45 = true then (none) else (if x8 = 0 then ((rows_Decode.f k x7).bind fun bt380 => ((chunk_Version.f x7).bind fun bt384 => (if bt380.2 = 0 then ((bonsairef13_Same.f k bt380.1 x0).bind fun t386 => (if t386 = true then (if bt384.1 = 1 then (bonsailaw21_RowsBack.j2 k x1 x2 x7 (bt384.2 != 0)) else (bonsailaw21_RowsBack.j2 k x1 x2 x7 true)) else (bonsailaw21_RowsBack.j2 k x1 x2 x7 true))) else (bonsailaw21_RowsBack.j2 k x1 x2 x7 true)))) else (bonsailaw21_RowsBack.j4 k x1))
def bonsailaw21_RowsBack.j4 : Nat → ByteArray → Option (Bool)
  | 0, _ => none
  | k + 1, x1 => (rows_Decode.f k x1).bind fun bt391 => (if bt391.2 = 0 then ((rows_Encode.f k bt391.1).bind fun bt395 => (if bt395.2 = 0 then (if bt395.1.toList = x1.toList then ((bonsailaw21_live.f k).bind fun t397 => (some t397)) else (none)) else (none))) else (if (bt391.1.length : Int) = 0 then ((bonsailaw21_live.f k).bind fun t398 => (some t398)) else (none)))
def bonsailaw21_RowsBack.j2 : Nat → ByteArray → Int → ByteArray → Bool → Option (Bool)
  | 0, _, _, _, _ => none
  | k + 1, x1, x2, x7, x73 => if x73 = true then (none) else (if x2 ≥ 0 then (bonsailaw21_RowsBack.j3 k x1 x2 x7 (decide (x2 < (x7.size : Int)))) else (bonsailaw21_RowsBack.j3 k x1 x2 x7 false))
def bonsailaw21_RowsBack.j3 : Nat → ByteArray → Int → ByteArray → Bool → Option (Bool)
  | 0, _, _, _, _ => none
  | k + 1, x1, x2, x7, x81 => if x81 = true then (if 0 ≤ x2 then (if x2 ≤ (x7.size : Int) then ((rows_Decode.f k (x7.extract 0 (x2 : Int).toNat)).bind fun bt387 => (if bt387.2 = 0 then (none) else (if (bt387.1.length : Int) = 0 then (bonsailaw21_RowsBack.j4 k x1) else (none)))) else (none)) else (none)) else (bonsailaw21_RowsBack.j4 k x1)
end
def bonsailaw21_RowsBack.f (k : Nat) (l0 : List (S30)) (a1 : ByteArray) (a2 : Int) : Option (Bool) := (bonsairef13_Few.f k l0 40).bind fun t375 => (if t375 = true then (bonsailaw21_RowsBack.j0 k l0 a1 a2 (decide ((a1.size : Int) > 1000))) else (bonsailaw21_RowsBack.j0 k l0 a1 a2 true))
set_option maxHeartbeats 8000000 in
set_option maxRecDepth 100000 in
theorem bonsailaw21_RowsBack.calls (k : Nat) (A0 : Option Addr) (c0 : Nat) (l0 : List (S30)) (a1 : ByteArray) (a2 : Int) (r : Bool) (w : World) (hr0 : Kd.C k30 w A0 l0.length l0) (hc0 : l0.length ≤ c0) (h : bonsailaw21_RowsBack.f k l0 a1 a2 = some r) :
    Calls Try.prog 5 #[.slice A0 l0.length c0, .string a1, .int .i64 a2] w fun e w' => e = .returned (.bool r) ∧ Below w.heap.size w w' := by
  have HR0 := Aside0.mk hr0
  have HC0 := Aside0.mk hc0
  clear hr0 hc0
  have HB := Aside0.mk (Below.refl w.heap.size w)
  have H : ((bonsairef13_Few.f k l0 40).bind fun t375 => (if t375 = true then (bonsailaw21_RowsBack.j0 k l0 a1 a2 (decide ((a1.size : Int) > 1000))) else (bonsailaw21_RowsBack.j0 k l0 a1 a2 true))) = some r := h
  clear h
  have HC4 := Aside0.mk H
  clear H
  go_enter Try.func5, Try.ntmps5
  go_upto_region 1 with (fail)
  go_cut [26] (fun v26 wc => ∃ (kq : Nat) (x26_3 : Bool), v26 = .bool x26_3 ∧ Aside0 (bonsailaw21_RowsBack.j0 kq l0 a1 a2 x26_3 = some r) ∧ Aside0 (kq ≤ k) ∧ Aside0 (Below w.heap.size w wc))
  case first =>
    have H := HC4.out
    clear HC4
    replace H := Option.bind_eq_some_iff.mp H
    obtain ⟨t375, A50, H⟩ := H
    replace H : (if t375 = true then (bonsailaw21_RowsBack.j0 k l0 a1 a2 (decide ((a1.size : Int) > 1000))) else (bonsailaw21_RowsBack.j0 k l0 a1 a2 true)) = some r := H
    have A5 := Aside0.mk A50
    clear A50
    by_cases c6 : t375 = true
    · subst c6
      have H1 : (bonsailaw21_RowsBack.j0 k l0 a1 a2 (decide ((a1.size : Int) > 1000))) = some r := by rw [if_pos rfl] at H; exact H
      clear H
      have H := H1
      clear H1
      have H' := Aside0.mk H
      clear H
      go_wp2_with (first | ((with_reducible refine gate_callee (f := 7) rfl ?_); refine goesL_ (some 20) rfl rfl Try.func7 (by kernel_rfl) rfl #[.slice A0 l0.length c0, .int .i64 40] rfl (by (try simp only [List.map_toArray, List.map_cons, List.map_nil]); first | done | rfl | (simp only [List.length_drop, List.length_take]; rfl)) ?_; (with_reducible refine (bonsairef13_Few.calls k _ _ l0 40 true _ ?side1 ?side2 A5.out).mono ?_); (case side1 => repeat (first | exact (Kd.C_below HR0.out HB.out) | (with_reducible refine Kd.C_alloc ?_ _) | (with_reducible refine Kd.C_drewN ?_ _) | (with_reducible refine Kd.C_drew ?_))); (case side2 => exact HC0.out); rintro e w' ⟨rfl, ⟨nd, rfl⟩⟩; refine ⟨_, rfl, ?_⟩))
      go_meet
      case rel => exact ⟨_, (decide ((a1.size : Int) > 1000)), (by first | rfl | (simp; done) | (simp [*]; done)), H', ⟨by first | omega | exact Nat.le_refl _⟩, ⟨by repeat (first | (with_reducible first | exact HB.out | apply below_alloc | apply pw_below_drewN | apply below_drew1) | exact HB.out)⟩⟩
    · replace c6 := Bool.eq_false_iff.mpr c6
      subst c6
      have H1 : (bonsailaw21_RowsBack.j0 k l0 a1 a2 true) = some r := by rw [if_neg (show ¬ (false = true) by decide)] at H; exact H
      clear H
      have H := H1
      clear H1
      have H' := Aside0.mk H
      clear H
      go_wp2_with (first | ((with_reducible refine gate_callee (f := 7) rfl ?_); refine goesL_ (some 20) rfl rfl Try.func7 (by kernel_rfl) rfl #[.slice A0 l0.length c0, .int .i64 40] rfl (by (try simp only [List.map_toArray, List.map_cons, List.map_nil]); first | done | rfl | (simp only [List.length_drop, List.length_take]; rfl)) ?_; (with_reducible refine (bonsairef13_Few.calls k _ _ l0 40 false _ ?side1 ?side2 A5.out).mono ?_); (case side1 => repeat (first | exact (Kd.C_below HR0.out HB.out) | (with_reducible refine Kd.C_alloc ?_ _) | (with_reducible refine Kd.C_drewN ?_ _) | (with_reducible refine Kd.C_drew ?_))); (case side2 => exact HC0.out); rintro e w' ⟨rfl, ⟨nd, rfl⟩⟩; refine ⟨_, rfl, ?_⟩))
      go_meet
      case rel => exact ⟨_, (true), (by first | rfl | (simp; done) | (simp [*]; done)), H', ⟨by first | omega | exact Nat.le_refl _⟩, ⟨by repeat (first | (with_reducible first | exact HB.out | apply below_alloc | apply pw_below_drewN | apply below_drew1) | exact HB.out)⟩⟩
  case rest =>
    clear HC4
    try clear p2
    try clear c5
    try clear c6
    obtain ⟨kq, x26_3, rfl, HA, HJ3, HB⟩ := hcut
    cases kq with
    | zero => exact absurd HA.out (by simp [bonsailaw21_RowsBack.j0])
    | succ kj3 =>
      have H := HA.out
      clear HA
      simp only [bonsailaw21_RowsBack.j0] at H
      by_cases c7 : x26_3 = true
      · subst c7
        have H1 : ((bonsailaw21_live.f kj3).bind fun t376 => (some t376)) = some r := by rw [if_pos rfl] at H; exact H
        clear H
        have H := H1
        clear H1
        replace H := Option.bind_eq_some_iff.mp H
        obtain ⟨t376, A80, H⟩ := H
        replace H : (some t376) = some r := H
        have A8 := Aside0.mk A80
        clear A80
        obtain rfl := Option.some.inj H
        go_wp2_with (first | ((with_reducible refine gate_callee (f := 8) rfl ?_); refine goesL_ (some 27) rfl rfl Try.func8 (by kernel_rfl) rfl #[] rfl (by (try simp only [List.map_toArray, List.map_cons, List.map_nil]); first | done | rfl | (simp only [List.length_drop, List.length_take]; rfl)) ?_; (with_reducible refine (bonsailaw21_live.calls kj3  t376 _ A8.out).mono ?_); rintro e w9 ⟨rfl, hb⟩; refine ⟨_, rfl, ?_⟩; have n0_ := Aside0.mk (below_step (by repeat (first | (with_reducible first | exact HB.out | apply below_alloc | apply pw_below_drewN | apply below_drew1) | exact HB.out)) hb); clear HB; have HB := n0_; clear n0_; (try clear hb); (try clear hb2); (try clear hk); (try clear hi)))
        go_ret
        exact ⟨by first | rfl | (simp [errW_none, errW_some] <;> rfl) | (simp [*, errW_none, errW_some] <;> rfl), by repeat (first | (with_reducible first | exact HB.out | apply below_alloc | apply pw_below_drewN | apply below_drew1) | exact HB.out)⟩
      · replace c7 := Bool.eq_false_iff.mpr c7
        subst c7
        have H1 : ((rows_Encode.f kj3 l0).bind fun bt377 => ((bonsairef13_May.f kj3 l0).bind fun t379 => (if ((bt377.2 == 0) != t379) = true then (bonsailaw21_RowsBack.j1 kj3 l0 a1 a2 bt377.1 bt377.2 true) else (if bt377.2 = 0 then (bonsailaw21_RowsBack.j1 kj3 l0 a1 a2 bt377.1 bt377.2 false) else (bonsailaw21_RowsBack.j1 kj3 l0 a1 a2 bt377.1 bt377.2 (bt377.1.toList != ([] : List UInt8))))))) = some r := by rw [if_neg (show ¬ (false = true) by decide)] at H; exact H
        clear H
        have H := H1
        clear H1
        replace H := Option.bind_eq_some_iff.mp H
        obtain ⟨⟨t377, t378⟩, A100, H⟩ := H
        replace H : ((bonsairef13_May.f kj3 l0).bind fun t379 => (if ((t378 == 0) != t379) = true then (bonsailaw21_RowsBack.j1 kj3 l0 a1 a2 t377 t378 true) else (if t378 = 0 then (bonsailaw21_RowsBack.j1 kj3 l0 a1 a2 t377 t378 false) else (bonsailaw21_RowsBack.j1 kj3 l0 a1 a2 t377 t378 (t377.toList != ([] : List UInt8)))))) = some r := H
        have A10 := Aside0.mk A100
        clear A100
        have HC11 := Aside0.mk H
        clear H
        go_upto_region 4 with (first | ((with_reducible refine gate_callee (f := 11) rfl ?_); refine goesL_ (some 30) rfl rfl Try.func11 (by kernel_rfl) rfl #[.slice A0 l0.length c0] rfl (by (try simp only [List.map_toArray, List.map_cons, List.map_nil]); first | done | rfl | (simp only [List.length_drop, List.length_take]; rfl)) ?_; (with_reducible refine (rows_Encode.calls kj3 _ _ l0 t377 t378 _ ?side1 ?side2 A10.out).mono ?_); (case side1 => repeat (first | exact (Kd.C_below HR0.out HB.out) | (with_reducible refine Kd.C_alloc ?_ _) | (with_reducible refine Kd.C_drewN ?_ _) | (with_reducible refine Kd.C_drew ?_))); (case side2 => exact HC0.out); rintro e w12 ⟨rfl, hb⟩; refine ⟨_, rfl, ?_⟩; have n0_ := Aside0.mk (below_step (by repeat (first | (with_reducible first | exact HB.out | apply below_alloc | apply pw_below_drewN | apply below_drew1) | exact HB.out)) hb); clear HB; have HB := n0_; clear n0_; (try clear hb); (try clear hb2); (try clear hk); (try clear hi)))
        (try simp only [Act.put, List.setIfInBounds_toArray, List.set_cons_zero, List.set_cons_succ])
        go_cut [45] (fun v45 wc => ∃ (kq : Nat) (x45_10 : Bool), v45 = .bool x45_10 ∧ Aside0 (bonsailaw21_RowsBack.j1 kq l0 a1 a2 t377 t378 x45_10 = some r) ∧ Aside0 (kq ≤ kj3) ∧ Aside0 (Below w.heap.size w wc))
        case first =>
          have H := HC11.out
          clear HC11
          replace H := Option.bind_eq_some_iff.mp H
          obtain ⟨t379, A130, H⟩ := H
          replace H : (if ((t378 == 0) != t379) = true then (bonsailaw21_RowsBack.j1 kj3 l0 a1 a2 t377 t378 true) else (if t378 = 0 then (bonsailaw21_RowsBack.j1 kj3 l0 a1 a2 t377 t378 false) else (bonsailaw21_RowsBack.j1 kj3 l0 a1 a2 t377 t378 (t377.toList != ([] : List UInt8))))) = some r := H
          have A13 := Aside0.mk A130
          clear A130
          by_cases c14 : ((t378 == 0) != t379) = true
          · rw [if_pos c14] at H
            have c14b0 : ((t378 == 0) != t379) = true := c14
            (try (have c14b1 : decide ((t378 == 0) = t379) = false := by simpa using c14))
            (try (have c14b2 : ((t378 == 0) == t379) = false := by simpa using c14))
            (try (have c14b3 : ¬ ((t378 == 0) = t379) := by simpa using c14))
            clear c14
            (first | rw [c14b0] | (simp only [i64_w, i32_w]; rw [c14b0]) | skip)
            have H' := Aside0.mk H
            clear H
            go_wp2_with (first | ((with_reducible refine gate_callee (f := 16) rfl ?_); refine goesL_ (some 36) rfl rfl Try.func16 (by kernel_rfl) rfl #[.slice A0 l0.length c0] rfl (by (try simp only [List.map_toArray, List.map_cons, List.map_nil]); first | done | rfl | (simp only [List.length_drop, List.length_take]; rfl)) ?_; (with_reducible refine (bonsairef13_May.calls kj3 _ _ l0 t379 _ ?side1 ?side2 A13.out).mono ?_); (case side1 => repeat (first | exact (Kd.C_below HR0.out HB.out) | (with_reducible refine Kd.C_alloc ?_ _) | (with_reducible refine Kd.C_drewN ?_ _) | (with_reducible refine Kd.C_drew ?_))); (case side2 => exact HC0.out); rintro e w15 ⟨rfl, hb⟩; refine ⟨_, rfl, ?_⟩; have n0_ := Aside0.mk (below_step (by repeat (first | (with_reducible first | exact HB.out | apply below_alloc | apply pw_below_drewN | apply below_drew1) | exact HB.out)) hb); clear HB; have HB := n0_; clear n0_; (try clear hb); (try clear hb2); (try clear hk); (try clear hi)))
            go_meet
            case rel => exact ⟨_, (true), (by first | rfl | (simp; done) | (simp [*]; done)), H', ⟨by have := HJ3.out; first | omega | exact Nat.le_refl _⟩, ⟨by repeat (first | (with_reducible first | exact HB.out | apply below_alloc | apply pw_below_drewN | apply below_drew1) | exact HB.out)⟩⟩
          · rw [if_neg c14] at H
            have c14b0 : ((t378 == 0) != t379) = false := by simpa using c14
            (try (have c14b1 : decide ((t378 == 0) = t379) = true := by simpa using c14))
            (try (have c14b2 : ((t378 == 0) == t379) = true := by simpa using c14))
            clear c14
            (first | rw [c14b0] | (simp only [i64_w, i32_w]; rw [c14b0]) | skip)
            by_cases c16 : t378 = 0
            · rw [if_pos c16] at H
              have c16b0 : (t378 == 0) = true := beq_iff_eq.mpr c16
              have c16b1 : (t378 != 0) = false := bne_eq_false_iff_eq.mpr c16
              have c14y : t379 = true := by have z_ := c14b0; rw [c16b0] at z_; revert z_; cases t379 <;> simp
              (try clear c14b0)
              (try clear c14b1)
              (try clear c14b2)
              clear c16
              have H' := Aside0.mk H
              clear H
              go_wp2_with (first | ((with_reducible refine gate_callee (f := 16) rfl ?_); refine goesL_ (some 36) rfl rfl Try.func16 (by kernel_rfl) rfl #[.slice A0 l0.length c0] rfl (by (try simp only [List.map_toArray, List.map_cons, List.map_nil]); first | done | rfl | (simp only [List.length_drop, List.length_take]; rfl)) ?_; (with_reducible refine (bonsairef13_May.calls kj3 _ _ l0 t379 _ ?side1 ?side2 A13.out).mono ?_); (case side1 => repeat (first | exact (Kd.C_below HR0.out HB.out) | (with_reducible refine Kd.C_alloc ?_ _) | (with_reducible refine Kd.C_drewN ?_ _) | (with_reducible refine Kd.C_drew ?_))); (case side2 => exact HC0.out); rintro e w17 ⟨rfl, hb⟩; refine ⟨_, rfl, ?_⟩; have n0_ := Aside0.mk (below_step (by repeat (first | (with_reducible first | exact HB.out | apply below_alloc | apply pw_below_drewN | apply below_drew1) | exact HB.out)) hb); clear HB; have HB := n0_; clear n0_; (try clear hb); (try clear hb2); (try clear hk); (try clear hi)))
              go_meet
              case rel => exact ⟨_, (false), (by first | rfl | (simp; done) | (simp [*]; done)), H', ⟨by have := HJ3.out; first | omega | exact Nat.le_refl _⟩, ⟨by repeat (first | (with_reducible first | exact HB.out | apply below_alloc | apply pw_below_drewN | apply below_drew1) | exact HB.out)⟩⟩
            · rw [if_neg c16] at H
              have c16b0 : (t378 == 0) = false := beq_eq_false_iff_ne.mpr c16
              have c16b1 : (t378 != 0) = true := bne_iff_ne.mpr c16
              have c14y : t379 = false := by have z_ := c14b0; rw [c16b0] at z_; revert z_; cases t379 <;> simp
              (try clear c14b0)
              (try clear c14b1)
              (try clear c14b2)
              have H' := Aside0.mk H
              clear H
              go_wp2_with (first | ((with_reducible refine gate_callee (f := 16) rfl ?_); refine goesL_ (some 36) rfl rfl Try.func16 (by kernel_rfl) rfl #[.slice A0 l0.length c0] rfl (by (try simp only [List.map_toArray, List.map_cons, List.map_nil]); first | done | rfl | (simp only [List.length_drop, List.length_take]; rfl)) ?_; (with_reducible refine (bonsairef13_May.calls kj3 _ _ l0 t379 _ ?side1 ?side2 A13.out).mono ?_); (case side1 => repeat (first | exact (Kd.C_below HR0.out HB.out) | (with_reducible refine Kd.C_alloc ?_ _) | (with_reducible refine Kd.C_drewN ?_ _) | (with_reducible refine Kd.C_drew ?_))); (case side2 => exact HC0.out); rintro e w18 ⟨rfl, hb⟩; refine ⟨_, rfl, ?_⟩; have n0_ := Aside0.mk (below_step (by repeat (first | (with_reducible first | exact HB.out | apply below_alloc | apply pw_below_drewN | apply below_drew1) | exact HB.out)) hb); clear HB; have HB := n0_; clear n0_; (try clear hb); (try clear hb2); (try clear hk); (try clear hi)))
              go_meet
              case rel => exact ⟨_, ((t377.toList != ([] : List UInt8))), (by first | rfl | (simp; done) | (simp [*]; done) | (cases h_ : t377.toList <;> simp [h_]; done)), H', ⟨by have := HJ3.out; first | omega | exact Nat.le_refl _⟩, ⟨by repeat (first | (with_reducible first | exact HB.out | apply below_alloc | apply pw_below_drewN | apply below_drew1) | exact HB.out)⟩⟩
        case rest =>
          clear HC11
          try clear c1
          try clear p2
          try clear c5
          try clear c6
          try clear c7
          try clear c8
          try clear c11
          try clear c14
          try clear c14b0
          try clear c14b1
          try clear c14b2
          try clear c16
          try clear c16b0
          try clear c16b1
          try clear p2
          obtain ⟨kq, x45_10, rfl, HA, HJ10, HB⟩ := hcut
          cases kq with
          | zero => exact absurd HA.out (by simp [bonsailaw21_RowsBack.j1])
          | succ kj10 =>
            have H := HA.out
            clear HA
            simp only [bonsailaw21_RowsBack.j1] at H
            by_cases c19 : x45_10 = true
            · subst c19
              have H1 : (none) = some r := by rw [if_pos rfl] at H; exact H
              clear H
              have H := H1
              clear H1
              exact absurd H (by simp)
            · replace c19 := Bool.eq_false_iff.mpr c19
              subst c19
              have H1 : (if t378 = 0 then ((rows_Decode.f kj10 t377).bind fun bt380 => ((chunk_Version.f t377).bind fun bt384 => (if bt380.2 = 0 then ((bonsairef13_Same.f kj10 bt380.1 l0).bind fun t386 => (if t386 = true then (if bt384.1 = 1 then (bonsailaw21_RowsBack.j2 kj10 a1 a2 t377 (bt384.2 != 0)) else (bonsailaw21_RowsBack.j2 kj10 a1 a2 t377 true)) else (bonsailaw21_RowsBack.j2 kj10 a1 a2 t377 true))) else (bonsailaw21_RowsBack.j2 kj10 a1 a2 t377 true)))) else (bonsailaw21_RowsBack.j4 kj10 a1)) = some r := by rw [if_neg (show ¬ (false = true) by decide)] at H; exact H
              clear H
              have H := H1
              clear H1
              have HC20 := Aside0.mk H
              clear H
              go_upto_if 47 with (fail)
              go_cut [] (fun wc => ∃ (kq : Nat), Aside0 (bonsailaw21_RowsBack.j4 kq a1 = some r) ∧ Aside0 (kq ≤ kj10) ∧ Aside0 (Below w.heap.size w wc))
              case first =>
                have H := HC20.out
                clear HC20
                by_cases c21 : t378 = 0
                · rw [if_pos c21] at H
                  have c21b0 : (t378 == 0) = true := beq_iff_eq.mpr c21
                  have c21b1 : (t378 != 0) = false := bne_eq_false_iff_eq.mpr c21
                  clear c21
                  (first | rw [c21b0] | (simp only [i64_w, i32_w]; rw [c21b0]) | skip)
                  replace H := Option.bind_eq_some_iff.mp H
                  obtain ⟨⟨t380, t381⟩, A220, H⟩ := H
                  replace H : ((chunk_Version.f t377).bind fun bt384 => (if t381 = 0 then ((bonsairef13_Same.f kj10 t380 l0).bind fun t386 => (if t386 = true then (if bt384.1 = 1 then (bonsailaw21_RowsBack.j2 kj10 a1 a2 t377 (bt384.2 != 0)) else (bonsailaw21_RowsBack.j2 kj10 a1 a2 t377 true)) else (bonsailaw21_RowsBack.j2 kj10 a1 a2 t377 true))) else (bonsailaw21_RowsBack.j2 kj10 a1 a2 t377 true))) = some r := H
                  have A22 := Aside0.mk A220
                  clear A220
                  replace H := Option.bind_eq_some_iff.mp H
                  obtain ⟨⟨t384, t385⟩, A230, H⟩ := H
                  replace H : (if t381 = 0 then ((bonsairef13_Same.f kj10 t380 l0).bind fun t386 => (if t386 = true then (if t384 = 1 then (bonsailaw21_RowsBack.j2 kj10 a1 a2 t377 (t385 != 0)) else (bonsailaw21_RowsBack.j2 kj10 a1 a2 t377 true)) else (bonsailaw21_RowsBack.j2 kj10 a1 a2 t377 true))) else (bonsailaw21_RowsBack.j2 kj10 a1 a2 t377 true)) = some r := H
                  have A23 := Aside0.mk A230
                  clear A230
                  have HC24 := Aside0.mk H
                  clear H
                  go_upto_region 9 with (first | ((with_reducible refine gate_callee (f := 13) rfl ?_); refine goesL_ (some 50) rfl rfl Try.func13 (by kernel_rfl) rfl #[.string t377] rfl (by (try simp only [List.map_toArray, List.map_cons, List.map_nil]); first | done | rfl | (simp only [List.length_drop, List.length_take]; rfl)) ?_; (with_reducible refine (rows_Decode.calls kj10 t377 t380 t381 _ A22.out).mono ?_); rintro e w25 ⟨v382, rfl, ho0, hb⟩; refine ⟨_, rfl, ?_⟩; have n0_ := Aside0.mk (Kd.R_lower ho0 (below_size (by repeat (first | (with_reducible first | exact HB.out | apply below_alloc | apply pw_below_drewN | apply below_drew1) | exact HB.out)))); have n1_ := Aside0.mk (below_step (by repeat (first | (with_reducible first | exact HB.out | apply below_alloc | apply pw_below_drewN | apply below_drew1) | exact HB.out)) hb); clear HB; have HO383 := n0_; have HB := n1_; clear n0_ n1_; (try clear hb); (try clear hb2); (try clear hk); (try clear hi); (try clear ho0)) | ((with_reducible refine gate_callee (f := 17) rfl ?_); refine goesL_ (some 55) rfl rfl Try.func17 (by kernel_rfl) rfl #[.string t377] rfl (by (try simp only [List.map_toArray, List.map_cons, List.map_nil]); first | done | rfl | (simp only [List.length_drop, List.length_take]; rfl)) ?_; (with_reducible refine (chunk_Version.calls t377 t384 t385 _ A23.out).mono ?_); rintro e w' ⟨rfl, ⟨nd, rfl⟩⟩; refine ⟨_, rfl, ?_⟩))
                  (try simp only [Act.put, List.setIfInBounds_toArray, List.set_cons_zero, List.set_cons_succ])
                  go_cut [73] (fun v73 wc => ∃ (kq : Nat) (x73_23 : Bool), v73 = .bool x73_23 ∧ Aside0 (bonsailaw21_RowsBack.j2 kq a1 a2 t377 x73_23 = some r) ∧ Aside0 (kq ≤ kj10) ∧ Aside0 (Below w.heap.size w wc))
                  case first =>
                    have H := HC24.out
                    clear HC24
                    by_cases c26 : t381 = 0
                    · rw [if_pos c26] at H
                      have c26b0 : (t381 == 0) = true := beq_iff_eq.mpr c26
                      have c26b1 : (t381 != 0) = false := bne_eq_false_iff_eq.mpr c26
                      clear c26
                      (first | rw [c26b0] | (simp only [i64_w, i32_w]; rw [c26b0]) | skip)
                      replace H := Option.bind_eq_some_iff.mp H
                      obtain ⟨t386, A270, H⟩ := H
                      replace H : (if t386 = true then (if t384 = 1 then (bonsailaw21_RowsBack.j2 kj10 a1 a2 t377 (t385 != 0)) else (bonsailaw21_RowsBack.j2 kj10 a1 a2 t377 true)) else (bonsailaw21_RowsBack.j2 kj10 a1 a2 t377 true)) = some r := H
                      have A27 := Aside0.mk A270
                      clear A270
                      by_cases c28 : t386 = true
                      · subst c28
                        have H1 : (if t384 = 1 then (bonsailaw21_RowsBack.j2 kj10 a1 a2 t377 (t385 != 0)) else (bonsailaw21_RowsBack.j2 kj10 a1 a2 t377 true)) = some r := by rw [if_pos rfl] at H; exact H
                        clear H
                        have H := H1
                        clear H1
                        by_cases c29 : t384 = 1
                        · rw [if_pos c29] at H
                          have c29b0 : (t384 == 1) = true := beq_iff_eq.mpr c29
                          have c29b1 : (t384 != 1) = false := bne_eq_false_iff_eq.mpr c29
                          clear c29
                          have H' := Aside0.mk H
                          clear H
                          obtain ⟨Ao30, co30, eo30⟩ := Kd.R_slice HO383.out
                          subst eo30
                          go_wp2_with (first | (go_at_call 15; (with_reducible refine (bonsairef13_Same.calls kj10 _ _ t380 _ _ l0 true _ ?side1 ?side2 ?side3 ?side4 A27.out).mono ?_); (case side1 => repeat (first | exact (Kd.R_reads' HO383.out).2.2 | (with_reducible refine Kd.C_alloc ?_ _) | (with_reducible refine Kd.C_drewN ?_ _) | (with_reducible refine Kd.C_drew ?_))); (case side2 => exact (Kd.R_reads' HO383.out).2.1); (case side3 => repeat (first | exact (Kd.C_below HR0.out HB.out) | (with_reducible refine Kd.C_alloc ?_ _) | (with_reducible refine Kd.C_drewN ?_ _) | (with_reducible refine Kd.C_drew ?_))); (case side4 => exact HC0.out); rintro e w31 ⟨rfl, hb⟩; have n0_ := Aside0.mk (Kd.R_below (by (with_reducible repeat (first | apply Kd.R_alloc | apply Kd.R_drewN | apply Kd.R_drew)); exact HO383.out) hb); have n1_ := Aside0.mk (below_step (by repeat (first | (with_reducible first | exact HB.out | apply below_alloc | apply pw_below_drewN | apply below_drew1) | exact HB.out)) hb); clear HO383; clear HB; have HO383 := n0_; have HB := n1_; clear n0_ n1_; (try clear hb); (try clear hb2); (try clear hk); (try clear hi)))
                          go_meet
                          case rel => exact ⟨_, ((t385 != 0)), (by first | rfl | (simp; done) | (simp [*]; done)), H', ⟨by have := HJ3.out; have := HJ10.out; first | omega | exact Nat.le_refl _⟩, ⟨by repeat (first | (with_reducible first | exact HB.out | apply below_alloc | apply pw_below_drewN | apply below_drew1) | exact HB.out)⟩⟩
                        · rw [if_neg c29] at H
                          have c29b0 : (t384 == 1) = false := beq_eq_false_iff_ne.mpr c29
                          have c29b1 : (t384 != 1) = true := bne_iff_ne.mpr c29
                          have H' := Aside0.mk H
                          clear H
                          obtain ⟨Ao32, co32, eo32⟩ := Kd.R_slice HO383.out
                          subst eo32
                          go_wp2_with (first | (go_at_call 15; (with_reducible refine (bonsairef13_Same.calls kj10 _ _ t380 _ _ l0 true _ ?side1 ?side2 ?side3 ?side4 A27.out).mono ?_); (case side1 => repeat (first | exact (Kd.R_reads' HO383.out).2.2 | (with_reducible refine Kd.C_alloc ?_ _) | (with_reducible refine Kd.C_drewN ?_ _) | (with_reducible refine Kd.C_drew ?_))); (case side2 => exact (Kd.R_reads' HO383.out).2.1); (case side3 => repeat (first | exact (Kd.C_below HR0.out HB.out) | (with_reducible refine Kd.C_alloc ?_ _) | (with_reducible refine Kd.C_drewN ?_ _) | (with_reducible refine Kd.C_drew ?_))); (case side4 => exact HC0.out); rintro e w33 ⟨rfl, hb⟩; have n0_ := Aside0.mk (Kd.R_below (by (with_reducible repeat (first | apply Kd.R_alloc | apply Kd.R_drewN | apply Kd.R_drew)); exact HO383.out) hb); have n1_ := Aside0.mk (below_step (by repeat (first | (with_reducible first | exact HB.out | apply below_alloc | apply pw_below_drewN | apply below_drew1) | exact HB.out)) hb); clear HO383; clear HB; have HO383 := n0_; have HB := n1_; clear n0_ n1_; (try clear hb); (try clear hb2); (try clear hk); (try clear hi)))
                          go_meet
                          case rel => exact ⟨_, (true), (by first | rfl | (simp; done) | (simp [*]; done)), H', ⟨by have := HJ3.out; have := HJ10.out; first | omega | exact Nat.le_refl _⟩, ⟨by repeat (first | (with_reducible first | exact HB.out | apply below_alloc | apply pw_below_drewN | apply below_drew1) | exact HB.out)⟩⟩
                      · replace c28 := Bool.eq_false_iff.mpr c28
                        subst c28
                        have H1 : (bonsailaw21_RowsBack.j2 kj10 a1 a2 t377 true) = some r := by rw [if_neg (show ¬ (false = true) by decide)] at H; exact H
                        clear H
                        have H := H1
                        clear H1
                        have H' := Aside0.mk H
                        clear H
                        obtain ⟨Ao34, co34, eo34⟩ := Kd.R_slice HO383.out
                        subst eo34
                        go_wp2_with (first | (go_at_call 15; (with_reducible refine (bonsairef13_Same.calls kj10 _ _ t380 _ _ l0 false _ ?side1 ?side2 ?side3 ?side4 A27.out).mono ?_); (case side1 => repeat (first | exact (Kd.R_reads' HO383.out).2.2 | (with_reducible refine Kd.C_alloc ?_ _) | (with_reducible refine Kd.C_drewN ?_ _) | (with_reducible refine Kd.C_drew ?_))); (case side2 => exact (Kd.R_reads' HO383.out).2.1); (case side3 => repeat (first | exact (Kd.C_below HR0.out HB.out) | (with_reducible refine Kd.C_alloc ?_ _) | (with_reducible refine Kd.C_drewN ?_ _) | (with_reducible refine Kd.C_drew ?_))); (case side4 => exact HC0.out); rintro e w35 ⟨rfl, hb⟩; have n0_ := Aside0.mk (Kd.R_below (by (with_reducible repeat (first | apply Kd.R_alloc | apply Kd.R_drewN | apply Kd.R_drew)); exact HO383.out) hb); have n1_ := Aside0.mk (below_step (by repeat (first | (with_reducible first | exact HB.out | apply below_alloc | apply pw_below_drewN | apply below_drew1) | exact HB.out)) hb); clear HO383; clear HB; have HO383 := n0_; have HB := n1_; clear n0_ n1_; (try clear hb); (try clear hb2); (try clear hk); (try clear hi)))
                        go_meet
                        case rel => exact ⟨_, (true), (by first | rfl | (simp; done) | (simp [*]; done)), H', ⟨by have := HJ3.out; have := HJ10.out; first | omega | exact Nat.le_refl _⟩, ⟨by repeat (first | (with_reducible first | exact HB.out | apply below_alloc | apply pw_below_drewN | apply below_drew1) | exact HB.out)⟩⟩
                    · rw [if_neg c26] at H
                      have c26b0 : (t381 == 0) = false := beq_eq_false_iff_ne.mpr c26
                      have c26b1 : (t381 != 0) = true := bne_iff_ne.mpr c26
                      (first | rw [c26b0] | (simp only [i64_w, i32_w]; rw [c26b0]) | skip)
                      have H' := Aside0.mk H
                      clear H
                      go_wp2
                      go_meet
                      case rel => exact ⟨_, (true), (by first | rfl | (simp; done) | (simp [*]; done)), H', ⟨by have := HJ3.out; have := HJ10.out; first | omega | exact Nat.le_refl _⟩, ⟨by repeat (first | (with_reducible first | exact HB.out | apply below_alloc | apply pw_below_drewN | apply below_drew1) | exact HB.out)⟩⟩
                  case rest =>
                    clear HC24
                    try clear c1
                    try clear c2
                    try clear p2
                    try clear c5
                    try clear c6
                    try clear c7
                    try clear c8
                    try clear c11
                    try clear c13
                    try clear c14
                    try clear c14b0
                    try clear c14b1
                    try clear c14b2
                    try clear c16
                    try clear c16b0
                    try clear c16b1
                    try clear c17
                    try clear c19
                    try clear c21
                    try clear c21b0
                    try clear c21b1
                    try clear c26
                    try clear c26b0
                    try clear c26b1
                    try clear c28
                    try clear c29
                    try clear c29b0
                    try clear c29b1
                    try clear p2
                    obtain ⟨kq, x73_23, rfl, HA, HJ23, HB⟩ := hcut
                    cases kq with
                    | zero => exact absurd HA.out (by simp [bonsailaw21_RowsBack.j2])
                    | succ kj23 =>
                      have H := HA.out
                      clear HA
                      simp only [bonsailaw21_RowsBack.j2] at H
                      by_cases c36 : x73_23 = true
                      · subst c36
                        have H1 : (none) = some r := by rw [if_pos rfl] at H; exact H
                        clear H
                        have H := H1
                        clear H1
                        exact absurd H (by simp)
                      · replace c36 := Bool.eq_false_iff.mpr c36
                        subst c36
                        have H1 : (if a2 ≥ 0 then (bonsailaw21_RowsBack.j3 kj23 a1 a2 t377 (decide (a2 < (t377.size : Int)))) else (bonsailaw21_RowsBack.j3 kj23 a1 a2 t377 false)) = some r := by rw [if_neg (show ¬ (false = true) by decide)] at H; exact H
                        clear H
                        have H := H1
                        clear H1
                        have HC37 := Aside0.mk H
                        clear H
                        go_upto_region 11 with (fail)
                        go_cut [81] (fun v81 wc => ∃ (kq : Nat) (x81_36 : Bool), v81 = .bool x81_36 ∧ Aside0 (bonsailaw21_RowsBack.j3 kq a1 a2 t377 x81_36 = some r) ∧ Aside0 (kq ≤ kj23) ∧ Aside0 (Below w.heap.size w wc))
                        case first =>
                          have H := HC37.out
                          clear HC37
                          by_cases c38 : a2 ≥ 0
                          · rw [if_pos c38] at H
                            have c38b0 : decide (0 ≤ a2) = true := decide_eq_true c38
                            clear c38
                            (first | rw [c38b0] | (simp only [i64_w, i32_w]; rw [c38b0]) | skip)
                            have H' := Aside0.mk H
                            clear H
                            go_wp2
                            go_meet
                            case rel => exact ⟨_, (decide (a2 < (t377.size : Int))), (by first | rfl | (simp; done) | (simp [*]; done)), H', ⟨by have := HJ3.out; have := HJ10.out; have := HJ23.out; first | omega | exact Nat.le_refl _⟩, ⟨by repeat (first | (with_reducible first | exact HB.out | apply below_alloc | apply pw_below_drewN | apply below_drew1) | exact HB.out)⟩⟩
                          · rw [if_neg c38] at H
                            have c38b0 : decide (0 ≤ a2) = false := decide_eq_false c38
                            clear c38
                            (first | rw [c38b0] | (simp only [i64_w, i32_w]; rw [c38b0]) | skip)
                            have H' := Aside0.mk H
                            clear H
                            go_wp2
                            go_meet
                            case rel => exact ⟨_, (false), (by first | rfl | (simp; done) | (simp [*]; done)), H', ⟨by have := HJ3.out; have := HJ10.out; have := HJ23.out; first | omega | exact Nat.le_refl _⟩, ⟨by repeat (first | (with_reducible first | exact HB.out | apply below_alloc | apply pw_below_drewN | apply below_drew1) | exact HB.out)⟩⟩
                        case rest =>
                          clear HC37
                          try clear c1
                          try clear c2
                          try clear p2
                          try clear c3
                          try clear c5
                          try clear c6
                          try clear c7
                          try clear c8
                          try clear c11
                          try clear c13
                          try clear c14
                          try clear c14b0
                          try clear c14b1
                          try clear c14b2
                          try clear c16
                          try clear c16b0
                          try clear c16b1
                          try clear c17
                          try clear c19
                          try clear c21
                          try clear c21b0
                          try clear c21b1
                          try clear c26
                          try clear c26b0
                          try clear c26b1
                          try clear c28
                          try clear c29
                          try clear c29b0
                          try clear c29b1
                          try clear c36
                          try clear c38
                          try clear c38b0
                          try clear p2
                          obtain ⟨kq, x81_36, rfl, HA, HJ36, HB⟩ := hcut
                          cases kq with
                          | zero => exact absurd HA.out (by simp [bonsailaw21_RowsBack.j3])
                          | succ kj36 =>
                            have H := HA.out
                            clear HA
                            simp only [bonsailaw21_RowsBack.j3] at H
                            by_cases c39 : x81_36 = true
                            · subst c39
                              have H1 : (if 0 ≤ a2 then (if a2 ≤ (t377.size : Int) then ((rows_Decode.f kj36 (t377.extract 0 (a2 : Int).toNat)).bind fun bt387 => (if bt387.2 = 0 then (none) else (if (bt387.1.length : Int) = 0 then (bonsailaw21_RowsBack.j4 kj36 a1) else (none)))) else (none)) else (none)) = some r := by rw [if_pos rfl] at H; exact H
                              clear H
                              have H := H1
                              clear H1
                              by_cases c40 : 0 ≤ a2
                              · rw [if_pos c40] at H
                                have c40b0 := eq_true c40
                                have c40b1 : decide (0 ≤ a2) = true := decide_eq_true c40
                                clear c40
                                by_cases c41 : a2 ≤ (t377.size : Int)
                                · rw [if_pos c41] at H
                                  have c41b0 := eq_true c41
                                  have c41b1 : decide (a2 ≤ (t377.size : Int)) = true := decide_eq_true c41
                                  clear c41
                                  replace H := Option.bind_eq_some_iff.mp H
                                  obtain ⟨⟨t387, t388⟩, A420, H⟩ := H
                                  replace H : (if t388 = 0 then (none) else (if (t387.length : Int) = 0 then (bonsailaw21_RowsBack.j4 kj36 a1) else (none))) = some r := H
                                  have A42 := Aside0.mk A420
                                  clear A420
                                  by_cases c43 : t388 = 0
                                  · rw [if_pos c43] at H
                                    exact absurd H (by simp)
                                  · rw [if_neg c43] at H
                                    have c43b0 : (t388 == 0) = false := beq_eq_false_iff_ne.mpr c43
                                    have c43b1 : (t388 != 0) = true := bne_iff_ne.mpr c43
                                    by_cases c44 : (t387.length : Int) = 0
                                    · rw [if_pos c44] at H
                                      have c44b0 : ((t387.length : Int) == 0) = true := beq_iff_eq.mpr c44
                                      have c44b1 : ((t387.length : Int) != 0) = false := bne_eq_false_iff_eq.mpr c44
                                      clear c44
                                      have H' := Aside0.mk H
                                      clear H
                                      go_wp2_with (first | ((with_reducible refine gate_callee (f := 13) rfl ?_); refine goesL_ (some 86) rfl rfl Try.func13 (by kernel_rfl) rfl #[.string (t377.extract 0 (a2 : Int).toNat)] rfl (by (try simp only [List.map_toArray, List.map_cons, List.map_nil]); first | done | rfl | (simp only [List.length_drop, List.length_take]; rfl)) ?_; (with_reducible refine (rows_Decode.calls kj36 (t377.extract 0 (a2 : Int).toNat) t387 t388 _ A42.out).mono ?_); rintro e w45 ⟨v389, rfl, ho0, hb⟩; refine ⟨_, rfl, ?_⟩; have n0_ := Aside0.mk (Kd.R_lower ho0 (below_size (by repeat (first | (with_reducible first | exact HB.out | apply below_alloc | apply pw_below_drewN | apply below_drew1) | exact HB.out)))); have n1_ := Aside0.mk (below_step (by repeat (first | (with_reducible first | exact HB.out | apply below_alloc | apply pw_below_drewN | apply below_drew1) | exact HB.out)) hb); clear HB; have HO390 := n0_; have HB := n1_; clear n0_ n1_; (try clear hb); (try clear hb2); (try clear hk); (try clear hi); (try clear ho0); obtain ⟨Ao46, co46, eo46⟩ := Kd.R_slice HO390.out; subst eo46))
                                      go_meet
                                      case rel => exact ⟨_, H', ⟨by have := HJ3.out; have := HJ10.out; have := HJ23.out; have := HJ36.out; first | omega | exact Nat.le_refl _⟩, ⟨by repeat (first | (with_reducible first | exact HB.out | apply below_alloc | apply pw_below_drewN | apply below_drew1) | exact HB.out)⟩⟩
                                    · rw [if_neg c44] at H
                                      exact absurd H (by simp)
                                · rw [if_neg c41] at H
                                  exact absurd H (by simp)
                              · rw [if_neg c40] at H
                                exact absurd H (by simp)
                            · replace c39 := Bool.eq_false_iff.mpr c39
                              subst c39
                              have H1 : (bonsailaw21_RowsBack.j4 kj36 a1) = some r := by rw [if_neg (show ¬ (false = true) by decide)] at H; exact H
                              clear H
                              have H := H1
                              clear H1
                              have H' := Aside0.mk H
                              clear H
                              go_wp2
                              go_meet
                              case rel => exact ⟨_, H', ⟨by have := HJ3.out; have := HJ10.out; have := HJ23.out; have := HJ36.out; first | omega | exact Nat.le_refl _⟩, ⟨by repeat (first | (with_reducible first | exact HB.out | apply below_alloc | apply pw_below_drewN | apply below_drew1) | exact HB.out)⟩⟩
                · rw [if_neg c21] at H
                  have c21b0 : (t378 == 0) = false := beq_eq_false_iff_ne.mpr c21
                  have c21b1 : (t378 != 0) = true := bne_iff_ne.mpr c21
                  (first | rw [c21b0] | (simp only [i64_w, i32_w]; rw [c21b0]) | skip)
                  have H' := Aside0.mk H
                  clear H
                  go_wp2
                  go_meet
                  case rel => exact ⟨_, H', ⟨by have := HJ3.out; have := HJ10.out; first | omega | exact Nat.le_refl _⟩, ⟨by repeat (first | (with_reducible first | exact HB.out | apply below_alloc | apply pw_below_drewN | apply below_drew1) | exact HB.out)⟩⟩
              case rest =>
                clear HC20
                try clear c1
                try clear c2
                try clear p2
                try clear c3
                try clear c4
                try clear c5
                try clear c6
                try clear c7
                try clear c8
                try clear c11
                try clear c13
                try clear c14
                try clear c14b0
                try clear c14b1
                try clear c14b2
                try clear c16
                try clear c16b0
                try clear c16b1
                try clear c17
                try clear c19
                try clear c21
                try clear c21b0
                try clear c21b1
                try clear c26
                try clear c26b0
                try clear c26b1
                try clear c28
                try clear c29
                try clear c29b0
                try clear c29b1
                try clear c36
                try clear c38
                try clear c38b0
                try clear c39
                try clear c40
                try clear c40b0
                try clear c40b1
                try clear c41
                try clear c41b0
                try clear c41b1
                try clear c43
                try clear c43b0
                try clear c43b1
                try clear c44
                try clear c44b0
                try clear c44b1
                try clear p2
                obtain ⟨kq, HA, HJ19, HB⟩ := hcut
                cases kq with
                | zero => exact absurd HA.out (by simp [bonsailaw21_RowsBack.j4])
                | succ kj19 =>
                  have H := HA.out
                  clear HA
                  simp only [bonsailaw21_RowsBack.j4] at H
                  replace H := Option.bind_eq_some_iff.mp H
                  obtain ⟨⟨t391, t392⟩, A470, H⟩ := H
                  replace H : (if t392 = 0 then ((rows_Encode.f kj19 t391).bind fun bt395 => (if bt395.2 = 0 then (if bt395.1.toList = a1.toList then ((bonsailaw21_live.f kj19).bind fun t397 => (some t397)) else (none)) else (none))) else (if (t391.length : Int) = 0 then ((bonsailaw21_live.f kj19).bind fun t398 => (some t398)) else (none))) = some r := H
                  have A47 := Aside0.mk A470
                  clear A470
                  by_cases c48 : t392 = 0
                  · rw [if_pos c48] at H
                    have c48b0 : (t392 == 0) = true := beq_iff_eq.mpr c48
                    have c48b1 : (t392 != 0) = false := bne_eq_false_iff_eq.mpr c48
                    clear c48
                    replace H := Option.bind_eq_some_iff.mp H
                    obtain ⟨⟨t395, t396⟩, A490, H⟩ := H
                    replace H : (if t396 = 0 then (if t395.toList = a1.toList then ((bonsailaw21_live.f kj19).bind fun t397 => (some t397)) else (none)) else (none)) = some r := H
                    have A49 := Aside0.mk A490
                    clear A490
                    by_cases c50 : t396 = 0
                    · rw [if_pos c50] at H
                      have c50b0 : (t396 == 0) = true := beq_iff_eq.mpr c50
                      have c50b1 : (t396 != 0) = false := bne_eq_false_iff_eq.mpr c50
                      clear c50
                      by_cases c51 : t395.toList = a1.toList
                      · rw [if_pos c51] at H
                        have c51b0 : (t395.toList == a1.toList) = true := beq_iff_eq.mpr c51
                        have c51b1 : (t395.toList != a1.toList) = false := bne_eq_false_iff_eq.mpr c51
                        clear c51
                        replace H := Option.bind_eq_some_iff.mp H
                        obtain ⟨t397, A520, H⟩ := H
                        replace H : (some t397) = some r := H
                        have A52 := Aside0.mk A520
                        clear A520
                        obtain rfl := Option.some.inj H
                        go_wp2_with (first | ((with_reducible refine gate_callee (f := 13) rfl ?_); refine goesL_ (some 98) rfl rfl Try.func13 (by kernel_rfl) rfl #[.string a1] rfl (by (try simp only [List.map_toArray, List.map_cons, List.map_nil]); first | done | rfl | (simp only [List.length_drop, List.length_take]; rfl)) ?_; (with_reducible refine (rows_Decode.calls kj19 a1 t391 t392 _ A47.out).mono ?_); rintro e w53 ⟨v393, rfl, ho0, hb⟩; refine ⟨_, rfl, ?_⟩; have n0_ := Aside0.mk (Kd.R_lower ho0 (below_size (by repeat (first | (with_reducible first | exact HB.out | apply below_alloc | apply pw_below_drewN | apply below_drew1) | exact HB.out)))); have n1_ := Aside0.mk (below_step (by repeat (first | (with_reducible first | exact HB.out | apply below_alloc | apply pw_below_drewN | apply below_drew1) | exact HB.out)) hb); clear HB; have HO394 := n0_; have HB := n1_; clear n0_ n1_; (try clear hb); (try clear hb2); (try clear hk); (try clear hi); (try clear ho0); obtain ⟨Ao54, co54, eo54⟩ := Kd.R_slice HO394.out; subst eo54) | ((with_reducible refine gate_callee (f := 11) rfl ?_); refine goesL_ (some 111) rfl rfl Try.func11 (by kernel_rfl) rfl #[.slice Ao54 t391.length co54] rfl (by (try simp only [List.map_toArray, List.map_cons, List.map_nil]); first | done | rfl | (simp only [List.length_drop, List.length_take]; rfl)) ?_; (with_reducible refine (rows_Encode.calls kj19 _ _ t391 t395 t396 _ ?side1 ?side2 A49.out).mono ?_); (case side1 => repeat (first | exact (Kd.R_reads' HO394.out).2.2 | (with_reducible refine Kd.C_alloc ?_ _) | (with_reducible refine Kd.C_drewN ?_ _) | (with_reducible refine Kd.C_drew ?_))); (case side2 => exact (Kd.R_reads' HO394.out).2.1); rintro e w55 ⟨rfl, hb⟩; refine ⟨_, rfl, ?_⟩; have n0_ := Aside0.mk (Kd.R_below (by (with_reducible repeat (first | apply Kd.R_alloc | apply Kd.R_drewN | apply Kd.R_drew)); exact HO394.out) hb); have n1_ := Aside0.mk (below_step (by repeat (first | (with_reducible first | exact HB.out | apply below_alloc | apply pw_below_drewN | apply below_drew1) | exact HB.out)) hb); clear HO394; clear HB; have HO394 := n0_; have HB := n1_; clear n0_ n1_; (try clear hb); (try clear hb2); (try clear hk); (try clear hi)) | (go_at_call 8; (with_reducible refine (bonsailaw21_live.calls kj19  t397 _ A52.out).mono ?_); rintro e w56 ⟨rfl, hb⟩; have n0_ := Aside0.mk (Kd.R_below (by (with_reducible repeat (first | apply Kd.R_alloc | apply Kd.R_drewN | apply Kd.R_drew)); exact HO394.out) hb); have n1_ := Aside0.mk (below_step (by repeat (first | (with_reducible first | exact HB.out | apply below_alloc | apply pw_below_drewN | apply below_drew1) | exact HB.out)) hb); clear HO394; clear HB; have HO394 := n0_; have HB := n1_; clear n0_ n1_; (try clear hb); (try clear hb2); (try clear hk); (try clear hi)))
                        go_ret
                        exact ⟨by first | rfl | (simp [errW_none, errW_some] <;> rfl) | (simp [*, errW_none, errW_some] <;> rfl), by repeat (first | (with_reducible first | exact HB.out | apply below_alloc | apply pw_below_drewN | apply below_drew1) | exact HB.out)⟩
                      · rw [if_neg c51] at H
                        exact absurd H (by simp)
                    · rw [if_neg c50] at H
                      exact absurd H (by simp)
                  · rw [if_neg c48] at H
                    have c48b0 : (t392 == 0) = false := beq_eq_false_iff_ne.mpr c48
                    have c48b1 : (t392 != 0) = true := bne_iff_ne.mpr c48
                    by_cases c57 : (t391.length : Int) = 0
                    · rw [if_pos c57] at H
                      have c57b0 : ((t391.length : Int) == 0) = true := beq_iff_eq.mpr c57
                      have c57b1 : ((t391.length : Int) != 0) = false := bne_eq_false_iff_eq.mpr c57
                      clear c57
                      replace H := Option.bind_eq_some_iff.mp H
                      obtain ⟨t398, A580, H⟩ := H
                      replace H : (some t398) = some r := H
                      have A58 := Aside0.mk A580
                      clear A580
                      obtain rfl := Option.some.inj H
                      go_wp2_with (first | ((with_reducible refine gate_callee (f := 13) rfl ?_); refine goesL_ (some 98) rfl rfl Try.func13 (by kernel_rfl) rfl #[.string a1] rfl (by (try simp only [List.map_toArray, List.map_cons, List.map_nil]); first | done | rfl | (simp only [List.length_drop, List.length_take]; rfl)) ?_; (with_reducible refine (rows_Decode.calls kj19 a1 t391 t392 _ A47.out).mono ?_); rintro e w59 ⟨v393, rfl, ho0, hb⟩; refine ⟨_, rfl, ?_⟩; have n0_ := Aside0.mk (Kd.R_lower ho0 (below_size (by repeat (first | (with_reducible first | exact HB.out | apply below_alloc | apply pw_below_drewN | apply below_drew1) | exact HB.out)))); have n1_ := Aside0.mk (below_step (by repeat (first | (with_reducible first | exact HB.out | apply below_alloc | apply pw_below_drewN | apply below_drew1) | exact HB.out)) hb); clear HB; have HO394 := n0_; have HB := n1_; clear n0_ n1_; (try clear hb); (try clear hb2); (try clear hk); (try clear hi); (try clear ho0); obtain ⟨Ao60, co60, eo60⟩ := Kd.R_slice HO394.out; subst eo60) | (go_at_call 8; (with_reducible refine (bonsailaw21_live.calls kj19  t398 _ A58.out).mono ?_); rintro e w61 ⟨rfl, hb⟩; have n0_ := Aside0.mk (Kd.R_below (by (with_reducible repeat (first | apply Kd.R_alloc | apply Kd.R_drewN | apply Kd.R_drew)); exact HO394.out) hb); have n1_ := Aside0.mk (below_step (by repeat (first | (with_reducible first | exact HB.out | apply below_alloc | apply pw_below_drewN | apply below_drew1) | exact HB.out)) hb); clear HO394; clear HB; have HO394 := n0_; have HB := n1_; clear n0_ n1_; (try clear hb); (try clear hb2); (try clear hk); (try clear hi)))
                      go_ret
                      exact ⟨by first | rfl | (simp [errW_none, errW_some] <;> rfl) | (simp [*, errW_none, errW_some] <;> rfl), by repeat (first | (with_reducible first | exact HB.out | apply below_alloc | apply pw_below_drewN | apply below_drew1) | exact HB.out)⟩
                    · rw [if_neg c57] at H
                      exact absurd H (by simp)
end Go.Proofs.Ytfgnjndfnijjoaa.Print
end
section
namespace Go.Proofs.Ytfgnjndfnijjoaa.LibF
open Go.RowKit Go.Proofs.Ytfgnjndfnijjoaa.Print Go.Proofs.YtfgnjndfnijjoaaW.PrintWords Go.Proofs.YtfgnjndfnijjoaaW.PrintLast Go.Proofs.YtfgnjndfnijjoaaW.PrintMore Go.Proofs.Ytfgnjndfnijjoaa.LibA Go.Proofs.Ytfgnjndfnijjoaa.LibB
theorem take_take {s : ByteArray} {a b : Nat} (h : a ≤ b) : (s.extract 0 b).extract 0 a = s.extract 0 a := by
  rw [ByteArray.extract_extract]
  congr 1
  omega
end Go.Proofs.Ytfgnjndfnijjoaa.LibF
end
section
namespace Go.Proofs.Ytfgnjndfnijjoaa.LibG
open Go.RowKit Go.Proofs.Ytfgnjndfnijjoaa.Print Go.Proofs.YtfgnjndfnijjoaaW.PrintWords Go.Proofs.YtfgnjndfnijjoaaW.PrintLast Go.Proofs.YtfgnjndfnijjoaaW.PrintMore Go.Proofs.Ytfgnjndfnijjoaa.LibA Go.Proofs.Ytfgnjndfnijjoaa.LibB Go.Proofs.Ytfgnjndfnijjoaa.LibC Go.Proofs.Ytfgnjndfnijjoaa.LibD Go.Proofs.Ytfgnjndfnijjoaa.LibE Go.Proofs.Ytfgnjndfnijjoaa.LibF
theorem num_put (s : ByteArray) : ∀ (d k : Nat) (i acc x : Int), 0 ≤ x → x < 128 ^ (d + 1) → 0 ≤ i → (i = 0 ∨ 0 < x) → x * 128 ^ i.toNat < 18446744073709551616 → d + 1 ≤ k → i + (putL d x).length ≤ s.size →
    (∀ j (hj : j < (putL d x).length), bt s (i + j) = (putL d x)[j]) → numL s k i acc = (0, acc + x * 128 ^ i.toNat, i + (putL d x).length)
  | d, 0, _, _, _, _, _, _, _, _, hk, _, _ => by omega
  | d, k + 1, i, acc, x, h0, h1, hi0, hx, h64, hk, hs, hb => by
    have hl := putL_length d x
    have hb0 := hb 0 (by omega)
    simp only [Int.add_zero, Int.natCast_zero] at hb0
    have h9 : i < 10 → (i < 9 ∨ x ≤ 1) := fun h => by
      by_cases h9 : i < 9
      · exact .inl h9
      · right
        have : i.toNat = 9 := by omega
        rw [this] at h64
        omega
    have h10 : ¬ i < 10 → x = 0 := fun h => by
      have h2 : (128 : Int) ^ 10 ≤ 128 ^ i.toNat := pow_le (by omega)
      by_cases hx0 : x = 0
      · exact hx0
      · have : 1 * 128 ^ i.toNat ≤ x * 128 ^ i.toNat := Int.mul_le_mul_of_nonneg_right (by omega) (by omega)
        omega
    simp only [numL]
    rw [if_pos (by omega)]
    by_cases hbig : x ≥ 128
    · have h8 : i < 9 := by
        by_cases h : i < 10
        · have := h9 h; omega
        · have := h10 h; omega
      cases d with
      | zero => simp at h1; omega
      | succ d =>
        have hp : putL (d + 1) x = (x % 128 + 128) :: putL d (x / 128) := by show (if x ≥ 128 then _ else _) = _; rw [if_pos hbig]
        have hc : bt s i = x % 128 + 128 := by rw [hb0]; simp only [hp, List.getElem_cons_zero]
        rw [hc, if_pos ⟨.inl h8, .inr (by omega)⟩, if_neg (by omega)]
        have e1 : (x % 128 + 128) % 128 = x % 128 := by omega
        have e2 : (128 : Int) ^ (i + 1).toNat = 128 ^ i.toNat * 128 := by rw [show (i + 1).toNat = i.toNat + 1 by omega, Int.pow_succ]
        have e3 : x * 128 ^ i.toNat = x % 128 * 128 ^ i.toNat + x / 128 * (128 ^ i.toNat * 128) := by
          have h := Int.emod_add_mul_ediv x 128
          conv => lhs; rw [← h]
          rw [Int.add_mul, Int.mul_comm 128 (x / 128), Int.mul_assoc, Int.mul_comm 128 (128 ^ i.toNat)]
        have hm : 0 ≤ x % 128 * 128 ^ i.toNat := Int.mul_nonneg (by omega) (by have := pow_pos i.toNat; omega)
        have := num_put s d k (i + 1) (acc + (x % 128 + 128) % 128 * 128 ^ i.toNat) (x / 128) (by omega) (by rw [Int.pow_succ] at h1; exact Int.ediv_lt_of_lt_mul (by omega) h1) (by omega) (.inr (by omega)) (by rw [e2]; omega) (by omega) (by rw [hp, List.length_cons] at hs; omega)
          (fun j hj => by
            have := hb (j + 1) (by rw [hp, List.length_cons]; omega)
            simp only [hp, List.getElem_cons_succ] at this
            rw [← this]
            congr 1
            omega)
        rw [this, hp, List.length_cons, e1, e2, e3]
        simp only [Prod.mk.injEq, true_and]
        constructor <;> omega
    · have hp : putL d x = [x] := by
        cases d with
        | zero => rfl
        | succ d => show (if x ≥ 128 then _ else _) = _; rw [if_neg hbig]
      have hc : bt s i = x := by rw [hb0]; simp only [hp, List.getElem_cons_zero]
      have hcond : i < 9 ∨ x ≤ 1 := by
        by_cases h : i < 10
        · exact h9 h
        · right; rw [h10 h]; decide
      rw [hc, if_pos ⟨hcond, by omega⟩, if_pos (by omega), hp, show x % 128 = x by omega]
      rfl
theorem put_read (x : Int) (h0 : 0 ≤ x) (h1 : x < 18446744073709551616) (t : ByteArray) : numL (strOfNums (putL 9 x) ++ t) 10 0 0 = ((0, x, ((putL 9 x).length : Int)) : Int × Int × Int) := by
  have hx : x < 128 ^ (9 + 1) := by omega
  have hs : (strOfNums (putL 9 x)).size = (putL 9 x).length := strOfNums_size _
  have := num_put (strOfNums (putL 9 x) ++ t) 9 10 0 0 x h0 hx (by omega) (.inl rfl) (by simpa using h1) (by omega) (by rw [ByteArray.size_append, hs]; omega) (fun j hj => by
    rw [Int.zero_add, bt_app_left (by omega) (by rw [hs]; omega)]
    exact bt_nums (putL_bytes 9 x h0 hx) hj)
  rw [this]
  simp
theorem app_take (a b : ByteArray) : (a ++ b).extract 0 a.size = a := by
  have hs : a.size ≤ (a ++ b).size := by rw [ByteArray.size_append]; omega
  refine ba_ext (size_take hs) (fun i h0 hi => ?_)
  rw [size_take hs] at hi
  rw [bt_take hs h0 (by omega), bt_app_left h0 (by omega)]
theorem take_put (t u : ByteArray) (a : ByteArray) (most : Int) (hm0 : 0 ≤ most) (hm1 : most ≤ 9223372036854775807) (ht : (t.size : Int) ≤ most) (hs : (a ++ ((strOfNums (putL 9 t.size) ++ t) ++ u)).size ≤ 140737488351232) (k : Nat) (hk : (a ++ ((strOfNums (putL 9 t.size) ++ t) ++ u)).size + 60 ≤ k) :
    word_Take.f k (a ++ ((strOfNums (putL 9 t.size) ++ t) ++ u)) a.size most = some (if Vld t then (t, ((a.size + (strOfNums (putL 9 t.size) ++ t).size : Nat) : Int), 0) else (noText, 0, 4)) := by
  obtain ⟨k, rfl⟩ : ∃ m, k = m + 2 := ⟨k - 2, by omega⟩
  have hz : (a ++ ((strOfNums (putL 9 t.size) ++ t) ++ u)).size = a.size + ((putL 9 t.size).length + t.size + u.size) := by simp only [ByteArray.size_append, strOfNums_size]
  have hl := putL_length 9 (t.size : Int)
  have hrest : (a ++ ((strOfNums (putL 9 t.size) ++ t) ++ u)).extract (a.size : Int).toNat (a ++ ((strOfNums (putL 9 t.size) ++ t) ++ u)).size = strOfNums (putL 9 t.size) ++ (t ++ u) := by
    rw [Int.toNat_natCast, app_cut, ByteArray.append_assoc]
  have hnum := put_read (t.size : Int) (by omega) (by omega) (t ++ u)
  have hnb : (strOfNums (putL 9 t.size) ++ (t ++ u)).size = (putL 9 t.size).length + (t.size + u.size) := by simp only [ByteArray.size_append, strOfNums_size]
  unfold word_Take.f
  rw [if_neg (by omega), decide_eq_false (by omega)]
  simp only [word_Take.j0, Bool.false_eq_true, if_false, pack_New.f, Option.bind_some]
  rw [if_pos (by omega), if_pos (by omega), hrest]
  have hN : pack_Reader_Num.f (strOfNums (putL 9 t.size) ++ (t ++ u)) 0 = some ((t.size : Int), t ++ u, 0) := by
    unfold pack_Reader_Num.f
    rw [if_pos (by omega), if_pos rfl, hnum, if_pos rfl]
    congr 3
    rw [Int.toNat_natCast]
    have := app_cut (strOfNums (putL 9 t.size)) (t ++ u)
    rwa [strOfNums_size] at this
  rw [hN]
  simp only [Option.bind_some, pack_Reader_Err.f, if_true]
  rw [if_neg (show ¬ most < 0 by omega), decide_eq_false (show ¬ (t.size : Int) > IntKind.u64.wrap most by rw [pack_wraps_u64 most (by omega) (by omega)]; omega)]
  simp only [word_Take.j1, Bool.false_eq_true, if_false, pack_Reader_Left.f, Option.bind_some]
  have htu : (t ++ u).size = t.size + u.size := ByteArray.size_append
  rw [pack_wraps_u64 _ (by omega) (by omega), if_neg (by omega), w64 (n := (t.size : Int)) (by omega) (by omega)]
  have hT : pack_Reader_Take.f (t ++ u) 0 (t.size : Int) = some (t, u, 0) := by
    unfold pack_Reader_Take.f
    rw [if_pos rfl, if_pos ⟨by omega, by omega⟩, Int.toNat_natCast, app_take, app_cut]
  rw [hT]
  simp only [Option.bind_some]
  rw [wordValid t (by omega)]
  simp only [Option.bind_some, decide_eq_true_eq]
  split
  · rw [w64 (by omega) (by omega)]
    congr 3
    simp only [ByteArray.size_append, strOfNums_size]
    omega
  · rfl
end Go.Proofs.Ytfgnjndfnijjoaa.LibG
end
section
namespace Go.Proofs.Ytfgnjndfnijjoaa.RowsB
set_option linter.unusedSimpArgs false
set_option linter.unusedVariables false
open Go.RowKit Go.Proofs.Ytfgnjndfnijjoaa.Print Go.Proofs.YtfgnjndfnijjoaaW.PrintWords Go.Proofs.YtfgnjndfnijjoaaW.PrintLast Go.Proofs.YtfgnjndfnijjoaaW.PrintMore Go.Proofs.Ytfgnjndfnijjoaa.LibA Go.Proofs.Ytfgnjndfnijjoaa.LibB Go.Proofs.Ytfgnjndfnijjoaa.LibC Go.Proofs.Ytfgnjndfnijjoaa.LibD Go.Proofs.Ytfgnjndfnijjoaa.LibE Go.Proofs.Ytfgnjndfnijjoaa.LibF Go.Proofs.Ytfgnjndfnijjoaa.LibG Go.Proofs.Ytfgnjndfnijjoaa.RowsA
theorem num_put_read (x : Int) (h0 : 0 ≤ x) (h1 : x < 18446744073709551616) (y : ByteArray) (hy : y.size ≤ 140737488351232) : pack_Reader_Num.f (putB x ++ y) 0 = some (x, y, 0) := by
  have hs := putB_size x
  have h := put_read x h0 h1 y
  unfold pack_Reader_Num.f
  rw [if_pos (by rw [ByteArray.size_append]; omega), if_pos rfl]
  show (if (numL (strOfNums (putL 9 x) ++ y) 10 0 0).1 = 0 then _ else _) = _
  unfold putB
  rw [h, if_pos rfl]
  congr 3
  rw [Int.toNat_natCast]
  have := app_cut (strOfNums (putL 9 x)) y
  rwa [strOfNums_size] at this
theorem fixL_bytes : ∀ (n : Nat) (u : Int), ∀ x ∈ fixL n u, 0 ≤ x ∧ x < 256
  | 0, _, x, h => by simp [fixL] at h
  | n + 1, u, x, h => by
    simp only [fixL, List.mem_cons] at h
    rcases h with rfl | h
    · omega
    · exact fixL_bytes n _ x h
theorem valL_fix : ∀ (n : Nat) (u : Int), 0 ≤ u → u < 256 ^ n → valL (fixL n u) = u
  | 0, u, h0, h1 => by simp at h1; simp [valL, fixL]; omega
  | n + 1, u, h0, h1 => by
    have : u / 256 < 256 ^ n := by
      rw [Int.pow_succ] at h1
      exact Int.ediv_lt_of_lt_mul (by decide) h1
    simp only [valL, fixL, valL_fix n (u / 256) (by omega) this]
    omega
theorem numsOf_str (xs : List Int) (h : ∀ x ∈ xs, 0 ≤ x ∧ x < 256) : numsOf (strOfNums xs) = xs := by
  refine List.ext_getElem (by rw [numsOf_length, strOfNums_size]) (fun i h1 h2 => ?_)
  simp only [numsOf, List.getElem_map, List.getElem_range]
  exact bt_nums h h2
theorem fixV_put (u : Int) (h0 : 0 ≤ u) (h1 : u < 18446744073709551616) : fixV (fixB u) = u := by
  unfold fixV fixB
  rw [numsOf_str _ (fixL_bytes 8 u)]
  exact valL_fix 8 u h0 (by simpa using h1)
end Go.Proofs.Ytfgnjndfnijjoaa.RowsB
end
section
namespace Go.Proofs.Ytfgnjndfnijjoaa.RowsD
set_option linter.unusedSimpArgs false
set_option linter.unusedVariables false
open Go.RowKit Go.Proofs.Ytfgnjndfnijjoaa.Print Go.Proofs.YtfgnjndfnijjoaaW.PrintWords Go.Proofs.YtfgnjndfnijjoaaW.PrintLast Go.Proofs.YtfgnjndfnijjoaaW.PrintMore Go.Proofs.Ytfgnjndfnijjoaa.LibA Go.Proofs.Ytfgnjndfnijjoaa.LibB Go.Proofs.Ytfgnjndfnijjoaa.LibC Go.Proofs.Ytfgnjndfnijjoaa.LibD Go.Proofs.Ytfgnjndfnijjoaa.LibE Go.Proofs.Ytfgnjndfnijjoaa.LibF Go.Proofs.Ytfgnjndfnijjoaa.LibG Go.Proofs.Ytfgnjndfnijjoaa.RowsA Go.Proofs.Ytfgnjndfnijjoaa.RowsB Go.Proofs.Ytfgnjndfnijjoaa.RowsC Go.Proofs.Ytfgnjndfnijjoaa.RowsL
theorem canon_of (b : Nat) (x : Int) (h : FB b x) : canonB x = true ∧ FB x.toNat x := by
  have hl := h.lt
  have he := h.eq
  unfold canonF at he
  have hx : (x % 9223372036854775808 ≤ 9218868437227405312 ∨ x = 9221120237041090560) ∧ 0 ≤ x ∧ x < 18446744073709551616 := by
    split at he <;> omega
  constructor
  · unfold canonB
    split
    · split
      · rfl
      · rw [beq_iff_eq]; omega
    · rfl
  · refine ⟨by omega, ?_⟩
    unfold canonF
    split <;> omega
end Go.Proofs.Ytfgnjndfnijjoaa.RowsD
end
section
namespace Go.Proofs.Ytfgnjndfnijjoaa.RowsE
set_option linter.unusedSimpArgs false
set_option linter.unusedVariables false
open Go.RowKit Go.Proofs.Ytfgnjndfnijjoaa.Print Go.Proofs.YtfgnjndfnijjoaaW.PrintWords Go.Proofs.YtfgnjndfnijjoaaW.PrintLast Go.Proofs.YtfgnjndfnijjoaaW.PrintMore Go.Proofs.Ytfgnjndfnijjoaa.LibA Go.Proofs.Ytfgnjndfnijjoaa.LibB Go.Proofs.Ytfgnjndfnijjoaa.LibC Go.Proofs.Ytfgnjndfnijjoaa.LibD Go.Proofs.Ytfgnjndfnijjoaa.LibE Go.Proofs.Ytfgnjndfnijjoaa.LibF Go.Proofs.Ytfgnjndfnijjoaa.LibG Go.Proofs.Ytfgnjndfnijjoaa.RowsA Go.Proofs.Ytfgnjndfnijjoaa.RowsB Go.Proofs.Ytfgnjndfnijjoaa.RowsC Go.Proofs.Ytfgnjndfnijjoaa.RowsL Go.Proofs.Ytfgnjndfnijjoaa.RowsD
theorem str_inj {a b : ByteArray} : a.toList = b.toList ↔ a = b := by
  constructor
  · intro h
    rw [ByteArray.toList_eq, ByteArray.toList_eq, Array.toList_inj] at h
    exact ByteArray.ext h
  · intro h
    rw [h]
def magicB : ByteArray := ⟨#[66, 78, 83, 73]⟩
def verOf (s : ByteArray) : Int × Int := if 4 ≤ s.size ∧ s.extract 0 4 = magicB then (if s.size = 4 then (0, 2) else (bt s 4, 0)) else (0, 7)
theorem version_is (s : ByteArray) : chunk_Version.f s = some (verOf s) := by
  unfold chunk_Version.f strings_CutPrefix.f stringslite_CutPrefix.f stringslite_HasPrefix.f verOf
  have hz : ((⟨#[66, 78, 83, 73]⟩ : ByteArray).size : Int) = 4 := rfl
  have hzn : (⟨#[66, 78, 83, 73]⟩ : ByteArray).size = 4 := rfl
  rw [hz, hzn]
  by_cases h4 : 4 ≤ s.size
  rotate_left
  · rw [if_neg (show ¬ (s.size : Int) ≥ 4 by omega), if_neg (show ¬ (4 ≤ s.size ∧ s.extract 0 4 = magicB) from fun h => h4 h.1)]
    rfl
  rw [if_pos (show (s.size : Int) ≥ 4 by omega), if_pos (by decide), if_pos (show (4 : Int) ≤ s.size by omega)]
  by_cases hm : s.extract 0 4 = magicB
  · rw [show ((s.extract 0 4).toList == (⟨#[66, 78, 83, 73]⟩ : ByteArray).toList) = true from beq_iff_eq.mpr (str_inj.mpr hm), if_pos (⟨h4, hm⟩ : 4 ≤ s.size ∧ s.extract 0 4 = magicB), if_pos (show (0 : Int) ≤ 4 by decide), if_pos (show (4 : Int) ≤ s.size by omega)]
    simp only [Option.bind_some, if_true]
    have hs : (s.extract 4 s.size).size = s.size - 4 := by rw [ByteArray.size_extract]; omega
    by_cases h5 : s.size = 4
    · have : s.extract 4 s.size = ByteArray.empty := by apply ByteArray.ext; simp; omega
      rw [this, if_pos (show ByteArray.empty.toList = [] by decide +kernel), if_pos h5]
    · have : (s.extract 4 s.size).toList ≠ [] := by
        intro h
        have : s.extract 4 s.size = ByteArray.empty := str_inj.mp (h.trans (by decide +kernel))
        rw [this] at hs
        have : ByteArray.empty.size = 0 := rfl
        omega
      rw [if_neg this, if_pos (by omega), if_neg h5, bt_drop (Nat.le_refl _) (by omega) (by omega)]
      have := bt_range s ((4 : Nat) + 0)
      rw [w64 (by omega) (by omega)]
      rfl
  · rw [show ((s.extract 0 4).toList == (⟨#[66, 78, 83, 73]⟩ : ByteArray).toList) = false from beq_eq_false_iff_ne.mpr (fun h => hm (str_inj.mp h)), if_neg (fun h : 4 ≤ s.size ∧ s.extract 0 4 = magicB => hm h.2)]
    rfl
theorem refVersion_is (s : ByteArray) : Ev (fun k => bonsairef11_Version.f k s) (verOf s) := by
  unfold bonsairef11_Version.f verOf
  by_cases h4 : 4 ≤ s.size
  rotate_left
  · simp only [if_pos (show (s.size : Int) < 4 by omega)]
    rw [if_neg (fun h => h4 h.1)]
    refine Ev.succ ?_
    simp only [bonsairef11_Version.j0, if_true]
    exact Ev.now _
  simp only [if_neg (show ¬ (s.size : Int) < 4 by omega), if_pos (show (4 : Int) ≤ s.size by omega)]
  by_cases hm : s.extract 0 4 = magicB
  · rw [if_pos (⟨h4, hm⟩ : 4 ≤ s.size ∧ s.extract 0 4 = magicB)]
    have e : ((s.extract 0 4).toList != ([66, 78, 83, 73] : List UInt8)) = false := bne_eq_false_iff_eq.mpr (by rw [hm]; decide +kernel)
    rw [e]
    refine Ev.succ ?_
    simp only [bonsairef11_Version.j0, Bool.false_eq_true, if_false]
    by_cases h5 : s.size = 4
    · simp only [if_pos (show (s.size : Int) < 5 by omega)]
      rw [if_pos h5]
      exact Ev.now _
    · have := bt_range s 4
      simp only [if_neg (show ¬ (s.size : Int) < 5 by omega), if_pos (show (4 : Int) < s.size by omega), w64 (show -9223372036854775808 ≤ bt s 4 by omega) (by omega)]
      rw [if_neg h5]
      exact Ev.now _
  · have e : ((s.extract 0 4).toList != ([66, 78, 83, 73] : List UInt8)) = true := bne_iff_ne.mpr (fun h => hm (str_inj.mp (h.trans (by decide +kernel))))
    rw [e, if_neg (fun h : 4 ≤ s.size ∧ s.extract 0 4 = magicB => hm h.2)]
    refine Ev.succ ?_
    simp only [bonsairef11_Version.j0, if_true]
    exact Ev.now _
structure Good (r : ByteArray) (out : List Mv) (c : Nat) (R : List Mv × Int) : Prop where
  none : R.2 ≠ 0 → R.1 = []
  some : R.2 = 0 → ∃ rest, R.1 = out ++ rest ∧ rest.length = c ∧ (∀ m ∈ rest, OneP m ∧ RankP m) ∧ r = flat rest ∧ ∀ j : Nat, 0 < j → out.length ≤ j → j < R.1.length → BefP (rdM R.1 ((j : Int) - 1)) (rdM R.1 j)
theorem rd_app_left (l r : List Mv) (j : Nat) (h : j < l.length) : rdM (l ++ r) (j : Int) = rdM l j := by
  rw [rd_mem (by simp; omega), rd_mem h, List.getElem_append_left h]
theorem decode_l (S : ByteArray) (n : Int) (hn : n ≤ 2000) (c : Nat) : ∀ (out : List Mv) (r : ByteArray) (a : Int), Sim S a r → (out.length : Int) + c = n →
    ∃ R, Ev (fun k => rows_Decode.g k S c out r 0) R ∧ Ev (fun k => bonsairef21_Decode.l0 k S n out out.length S a 0) R ∧ Good r out c R := by
  induction c with
  | zero =>
    intro out r a hS hc
    obtain ⟨hl1, hl2⟩ := hS.left 0
    refine ⟨if r.size = 0 then (out, 0) else ([], 5), ?_, ?_, ?_⟩
    · unfold rows_Decode.g pack_Reader_Done.f pack_Reader_Err.f
      simp only [Option.bind_some, if_true, hl1]
      by_cases h : r.size = 0
      · simp only [h, Int.natCast_zero, if_true, Option.bind_some, ne_eq, not_true_eq_false, if_false]
        exact Ev.now _
      · simp only [if_neg (show ¬ (r.size : Int) = 0 by omega), if_neg h, Option.bind_some]
        exact Ev.now _
    · refine Ev.succ ?_
      simp only [bonsairef21_Decode.l0, if_neg (show ¬ (out.length : Int) < wrap64 n by rw [w64 (by omega) (by omega)]; omega), hl2, Option.bind_some]
      by_cases h : r.size = 0
      · simp only [if_neg (show ¬ (r.size : Int) > 0 by omega), if_pos h]
        exact Ev.now _
      · simp only [if_pos (show (r.size : Int) > 0 by omega), if_neg h]
        exact Ev.now _
    · by_cases h : r.size = 0
      · rw [if_pos h]
        refine ⟨fun h => absurd rfl h, fun _ => ⟨[], by simp, rfl, by simp, ?_, fun j _ h1 h2 => absurd h2 (by show ¬ j < out.length; omega)⟩⟩
        exact ByteArray.ext (Array.eq_empty_of_size_eq_zero h)
      · rw [if_neg h]
        exact ⟨fun _ => rfl, fun h => absurd h (by decide)⟩
  | succ c ih =>
    intro out r a hS hc
    rcases RowsD.step S r a hS with ⟨e, he, ⟨m, r', e', hp⟩, hr⟩ | ⟨m, r', a', hg, hr⟩
    · refine ⟨([], e), ?_, hr n out out.length (by omega) (by omega) hn, ⟨fun _ => rfl, fun h => absurd h he⟩⟩
      unfold rows_Decode.g
      refine Ev.bind hp ?_
      simp only [ne_eq, he, not_false_eq_true, if_true]
      exact Ev.now _
    · obtain ⟨ob, hord, hob⟩ : ∃ b : Bool, Ev (fun k : Nat => if out.length = 0 then some true else rank_Before.f (rdM out ((out.length : Int) - 1)).f0.f0 (rdM out ((out.length : Int) - 1)).f0.f1 m.f0.f0 m.f0.f1) b ∧ (b = true ↔ ¬ (0 < (out.length : Int) ∧ ¬ BefP (rdM out ((out.length : Int) - 1)) m)) := by
        by_cases h0 : out.length = 0
        · simp only [if_pos h0]
          exact ⟨true, Ev.now _, fun _ h => by omega, fun _ => rfl⟩
        · simp only [if_neg h0, rank_Before.f]
          refine ⟨_, Ev.now _, fun h hn => hn.2 h, fun h => ?_⟩
          apply Classical.byContradiction
          intro hb
          exact h ⟨by omega, hb⟩
      by_cases ho : 0 < (out.length : Int) ∧ ¬ BefP (rdM out ((out.length : Int) - 1)) m
      · refine ⟨([], 12), ?_, hr n out out.length _ (by omega) (by omega) hn rfl (by unfold Onward; rw [if_pos ho]), ⟨fun _ => rfl, fun h => absurd h (by decide)⟩⟩
        unfold rows_Decode.g
        refine Ev.bind hg.prog ?_
        simp only [ne_eq, not_true_eq_false, if_false]
        refine Ev.bind hord ?_
        have hof : ob = false := by
          cases ob
          · rfl
          · exact absurd ho (hob.mp rfl)
        simp only [hof, if_true]
        exact Ev.now _
      · obtain ⟨R, h1, h2, h3⟩ := ih (out ++ [m]) r' a' hg.sim (by simp; omega)
        have h2' : Ev (fun k => bonsairef21_Decode.l0 k S n (out ++ [m]) ((out.length : Int) + 1) S a' 0) R := by
          rw [show (((out ++ [m]).length : Nat) : Int) = (out.length : Int) + 1 by simp] at h2
          exact h2
        refine ⟨R, ?_, hr n out out.length _ (by omega) (by omega) hn rfl (by unfold Onward; rw [if_neg ho]; exact h2'), h3.none, fun h => ?_⟩
        · unfold rows_Decode.g
          refine Ev.bind hg.prog ?_
          simp only [ne_eq, not_true_eq_false, if_false]
          refine Ev.bind hord ?_
          simp only [hob.mpr ho, Bool.true_eq_false, if_false]
          exact h1
        · obtain ⟨rest, e1, e2, e3, e4, e5⟩ := h3.some h
          refine ⟨m :: rest, by rw [e1]; simp, by simp [e2], ?_, by rw [hg.bytes, e4]; rfl, fun j j0 j1 j2 => ?_⟩
          · intro x hx
            rcases List.mem_cons.mp hx with rfl | hx
            · exact ⟨hg.one, hg.rank⟩
            · exact e3 x hx
          · by_cases hj : j = out.length
            · subst hj
              have hb : BefP (rdM out ((out.length : Int) - 1)) m := by
                apply Classical.byContradiction
                intro hb
                exact ho ⟨by omega, hb⟩
              have q1 : rdM R.1 ((out.length : Int) - 1) = rdM out ((out.length : Int) - 1) := by
                rw [rd_pred _ _ j0, rd_pred _ _ j0, e1, List.append_assoc, rd_app_left _ _ _ (by omega)]
              have q2 : rdM R.1 (out.length : Int) = m := by
                rw [rd_mem j2]
                simp [e1]
              rw [q1, q2]
              exact hb
            · exact e5 j j0 (by simp; omega) j2
structure Reads (s : ByteArray) (R : List Mv × Int) : Prop where
  prog : Ev (fun k => rows_Decode.f k s) R
  ref : Ev (fun k => bonsairef21_Decode.f k s) R
  none : R.2 ≠ 0 → R.1 = []
  may : R.2 = 0 → MayP R.1 ∧ (∀ m ∈ R.1, RankP m) ∧ s = fileB R.1
theorem decode_is (s : ByteArray) (hs : s.size ≤ 140737488351232) : ∃ R, Reads s R := by
  have hv := version_is s
  have hr := refVersion_is s
  obtain ⟨V, hV⟩ : ∃ V, V = verOf s := ⟨_, rfl⟩
  rw [← hV] at hv hr
  by_cases he : V.2 = 0
  rotate_left
  · refine ⟨([], V.2), ?_, ?_, fun _ => rfl, fun h => absurd h he⟩
    · unfold rows_Decode.f
      simp only [hv, Option.bind_some, ne_eq, he, not_false_eq_true, if_true]
      exact Ev.now _
    · unfold bonsairef21_Decode.f
      refine Ev.bind hr ?_
      simp only [if_neg he]
      exact Ev.now _
  by_cases h1 : V.1 = 1
  rotate_left
  · refine ⟨([], 8), ?_, ?_, fun _ => rfl, fun h => absurd h (by decide)⟩
    · unfold rows_Decode.f
      simp only [hv, Option.bind_some, ne_eq, he, not_true_eq_false, if_false, h1, not_false_eq_true, if_true]
      exact Ev.now _
    · unfold bonsairef21_Decode.f
      refine Ev.bind hr ?_
      simp only [if_pos he, if_neg h1]
      exact Ev.now _
  have hfacts : 5 ≤ s.size ∧ s.extract 0 4 = magicB ∧ bt s 4 = 1 := by
    unfold verOf at hV
    by_cases hm : 4 ≤ s.size ∧ s.extract 0 4 = magicB
    · rw [if_pos hm] at hV
      by_cases h4 : s.size = 4
      · rw [if_pos h4] at hV
        rw [hV] at he
        exact absurd he (by decide)
      · rw [if_neg h4] at hV
        rw [hV] at h1
        exact ⟨by have := hm.1; omega, hm.2, h1⟩
    · rw [if_neg hm] at hV
      rw [hV] at he
      exact absurd he (by decide)
  obtain ⟨h5, hmg, hb4⟩ := hfacts
  have hbeg : s.extract 0 5 = beginB := by
    refine ba_ext (by rw [size_take h5]; rfl) (fun i h0 hi => ?_)
    rw [size_take h5] at hi
    rw [bt_take h5 h0 hi]
    by_cases h4 : i < 4
    · have e := bt_take (show 4 ≤ s.size by omega) h0 (show i < (4 : Nat) by omega)
      rw [hmg] at e
      rw [← e]
      have : i = 0 ∨ i = 1 ∨ i = 2 ∨ i = 3 := by omega
      rcases this with rfl | rfl | rfl | rfl <;> decide +kernel
    · obtain rfl : i = 4 := by omega
      rw [hb4]
      decide +kernel
  have hS := Sim.begin s hs 5 (by omega) (by omega)
  rw [show (5 : Int).toNat = 5 from rfl] at hS
  obtain ⟨v, r1, e1, a1, p1, q1, S1, lo1, hi1, _, _, _, x1⟩ := hS.num 0
  have q1' := Ev.all 30 q1
  have startP : ∀ R, (Ev (fun k => if e1 ≠ 0 then some ([], e1) else if v > 2000 then some ([], 10) else if v < 0 then none else rows_Decode.g k s v.toNat [] r1 e1) R) → Ev (fun k => rows_Decode.f k s) R := fun R h => by
    unfold rows_Decode.f
    simp only [hv, Option.bind_some, ne_eq, he, h1, not_true_eq_false, if_false, if_pos (show 5 ≤ (s.size : Int) by omega), pack_New.f, p1]
    exact h
  have startR : ∀ R, (Ev (fun k => if e1 = 0 then (if v > 2000 then some (([] : List Mv), (10 : Int)) else bonsairef21_Decode.l0 k s v [] 0 s a1 e1) else some ([], e1)) R) → Ev (fun k => bonsairef21_Decode.f k s) R := fun R h => by
    unfold bonsairef21_Decode.f
    refine Ev.bind hr ?_
    simp only [if_pos he, if_pos h1]
    exact Ev.bind q1' h
  by_cases hee : e1 = 0
  rotate_left
  · refine ⟨([], e1), startP _ ?_, startR _ ?_, fun _ => rfl, fun h => absurd h hee⟩
    · simp only [ne_eq, hee, not_false_eq_true, if_true]; exact Ev.now _
    · simp only [if_neg hee]; exact Ev.now _
  by_cases hbig : v > 2000
  · refine ⟨([], 10), startP _ ?_, startR _ ?_, fun _ => rfl, fun h => absurd h (by decide)⟩
    · simp only [ne_eq, hee, not_true_eq_false, if_false, if_pos hbig]; exact Ev.now _
    · simp only [if_pos hee, if_pos hbig]; exact Ev.now _
  subst hee
  obtain ⟨R, g1, g2, g3⟩ := decode_l s v (by omega) v.toNat [] r1 a1 S1 (by simp; omega)
  refine ⟨R, startP _ ?_, startR _ ?_, g3.none, fun h => ?_⟩
  · simp only [ne_eq, not_true_eq_false, if_false, if_neg hbig, if_neg (show ¬ v < 0 by omega)]; exact g1
  · simp only [if_true, if_neg hbig]; exact g2
  · obtain ⟨rest, c1, c2, c3, c4, c5⟩ := g3.some h
    rw [List.nil_append] at c1
    subst c1
    refine ⟨⟨by omega, fun m hm => (c3 m hm).1, fun i h0 hi => c5 i h0 (by simp) hi⟩, fun m hm => (c3 m hm).2, ?_⟩
    obtain ⟨b1, _, _⟩ := num_read_put _ _ _ p1
    have := take_drop s 5 (by omega)
    rw [← this, hbeg, b1, c4]
    unfold fileB
    rw [show v = ((R.1.length : Nat) : Int) by omega, ByteArray.append_assoc]
theorem alike_refl (m : Mv) : bonsairef13_Alike.f m.f0.f0 m.f0.f1 m.f1 m.f2 m.f3 m.f4 m.f0.f0 m.f0.f1 m.f1 m.f2 m.f3 m.f4 = some true := by
  unfold bonsairef13_Alike.f bonsairef13_Row.f bonsairef12_Alike.f bonsairef01_Same.f bonsairef01_Bits.f
  simp
theorem same_l (l : List Mv) (hl : l.length ≤ 9223372036854775807) (d : Nat) : ∀ i : Nat, l.length ≤ i + d → Ev (fun k => bonsairef13_Same.l0 k l l i) true := by
  induction d with
  | zero =>
    intro i h
    refine Ev.succ ?_
    simp only [bonsairef13_Same.l0, if_neg (show ¬ (i : Int) < (l.length : Int) by omega)]
    exact Ev.now _
  | succ d ih =>
    intro i h
    by_cases hlt : i < l.length
    rotate_left
    · exact ih i (by omega)
    refine Ev.succ ?_
    simp only [bonsairef13_Same.l0, if_pos (show (i : Int) < (l.length : Int) by omega), if_pos (show (0 : Int) ≤ (i : Int) by omega), alike_refl, Option.bind_some, if_true, w64 (show -9223372036854775808 ≤ (i : Int) + 1 by omega) (by omega)]
    exact ih (i + 1) (by omega)
theorem same_refl (l : List Mv) (hl : l.length ≤ 9223372036854775807) : Ev (fun k => bonsairef13_Same.f k l l) true := by
  unfold bonsairef13_Same.f
  simp only [if_true]
  exact same_l l hl l.length 0 (by omega)
theorem reads_len {s : ByteArray} {R : List Mv × Int} (h : Reads s R) : R.1.length ≤ 9223372036854775807 := by
  by_cases he : R.2 = 0
  · have := (h.may he).1.few
    omega
  · rw [h.none he]
    decide
end Go.Proofs.Ytfgnjndfnijjoaa.RowsE
end
section
namespace Go.Proofs.Ytfgnjndfnijjoaa.RowsF
set_option linter.unusedSimpArgs false
set_option linter.unusedVariables false
open Go.RowKit Go.Proofs.Ytfgnjndfnijjoaa.Print Go.Proofs.YtfgnjndfnijjoaaW.PrintWords Go.Proofs.YtfgnjndfnijjoaaW.PrintLast Go.Proofs.YtfgnjndfnijjoaaW.PrintMore Go.Proofs.Ytfgnjndfnijjoaa.LibA Go.Proofs.Ytfgnjndfnijjoaa.LibB Go.Proofs.Ytfgnjndfnijjoaa.LibC Go.Proofs.Ytfgnjndfnijjoaa.LibD Go.Proofs.Ytfgnjndfnijjoaa.LibE Go.Proofs.Ytfgnjndfnijjoaa.LibF Go.Proofs.Ytfgnjndfnijjoaa.LibG Go.Proofs.Ytfgnjndfnijjoaa.RowsA Go.Proofs.Ytfgnjndfnijjoaa.RowsB Go.Proofs.Ytfgnjndfnijjoaa.RowsC Go.Proofs.Ytfgnjndfnijjoaa.RowsL Go.Proofs.Ytfgnjndfnijjoaa.RowsD Go.Proofs.Ytfgnjndfnijjoaa.RowsE
set_option maxHeartbeats 4000000 in
theorem fwd_one (P : ByteArray) (m : Mv) (y : ByteArray) (ho : OneP m) (hr : RankP m) (hS : (P ++ (oneB m ++ y)).size ≤ 140737488351232) : Ev (fun k => rdMove.f k (P ++ (oneB m ++ y)) (oneB m ++ y) 0) (m, 0, y, 0) := by
  obtain ⟨⟨⟨c, q⟩, p, ch, t, u⟩, hm⟩ : ∃ x : Mv, x = m := ⟨m, rfl⟩
  subst hm
  have o := one_is ⟨⟨c, q⟩, p, ch, t, u⟩
  dsimp only at o
  rw [decide_eq_true ho] at o
  obtain ⟨c1, c2, r1, r2, k1, k2, p1, p2, nm, vl⟩ := ho
  dsimp only at c1 c2 r1 r2 k1 k2 p1 p2 nm vl
  obtain ⟨hcn, hfb⟩ := canon_of _ _ hr
  have hur := FB_range hr
  dsimp only at hcn hur
  have hfix := canon_fix u hur.1 hur.2 hcn
  have w (x : Int) (h0 : 0 ≤ x) (h1 : x ≤ 9223372036854775807) : IntKind.u64.wrap x = x := pack_wraps_u64 x h0 (by omega)
  have hmB : oneB ⟨⟨c, q⟩, p, ch, t, u⟩ = ((((putB c ++ putB q) ++ putB p) ++ putB ch) ++ (putB t.size ++ t)) ++ fixB u := by
    unfold oneB headB
    dsimp only
    rw [w c (by omega) (by omega), w q (by omega) (by omega), w p (by omega) (by omega), w ch (by omega) (by omega)]
  rw [hmB] at hS ⊢
  have z1 := putB_size c
  have z2 := putB_size q
  have z3 := putB_size p
  have z4 := putB_size ch
  have z5 := putB_size (t.size : Int)
  have z6 := fixB_size u
  simp only [ByteArray.size_append] at hS
  obtain ⟨A, hA⟩ : ∃ A, A = P ++ (((putB c ++ putB q) ++ putB p) ++ putB ch) := ⟨_, rfl⟩
  obtain ⟨r5, hr5⟩ : ∃ x, x = fixB u ++ y := ⟨_, rfl⟩
  obtain ⟨r4, hr4⟩ : ∃ x, x = (putB t.size ++ t) ++ r5 := ⟨_, rfl⟩
  have z7 : r5.size = 8 + y.size := by rw [hr5, ByteArray.size_append, z6]
  have z8 : r4.size = ((putB t.size).size + t.size) + r5.size := by rw [hr4]; simp only [ByteArray.size_append]
  have z9 : A.size = P.size + ((((putB c).size + (putB q).size) + (putB p).size) + (putB ch).size) := by rw [hA]; simp only [ByteArray.size_append]
  have er : ((((putB c ++ putB q) ++ putB p) ++ putB ch) ++ (putB t.size ++ t)) ++ fixB u ++ y = putB c ++ (putB q ++ (putB p ++ (putB ch ++ r4))) := by
    rw [hr4, hr5]; simp only [ByteArray.append_assoc]
  have eS : P ++ (putB c ++ (putB q ++ (putB p ++ (putB ch ++ r4)))) = A ++ r4 := by
    rw [hA]; simp only [ByteArray.append_assoc]
  rw [er, eS]
  have zS : (A ++ r4).size = A.size + r4.size := ByteArray.size_append
  have n1 := num_put_read c (by omega) (by omega) (putB q ++ (putB p ++ (putB ch ++ r4))) (by simp only [ByteArray.size_append]; omega)
  have n2 := num_put_read q (by omega) (by omega) (putB p ++ (putB ch ++ r4)) (by simp only [ByteArray.size_append]; omega)
  have n3 := num_put_read p (by omega) (by omega) (putB ch ++ r4) (by simp only [ByteArray.size_append]; omega)
  have n4 := num_put_read ch (by omega) (by omega) r4 (by omega)
  have hfour : rdFour.f (putB c ++ (putB q ++ (putB p ++ (putB ch ++ r4)))) 0 = some ([c, q, p, ch], true, r4, 0) := by
    unfold rdFour.f
    simp only [rdFour.go, n1, n2, n3, n4, Option.bind_some, List.nil_append, List.cons_append, decide_eq_true (show c ≤ 9223372036854775807 by omega), decide_eq_true (show q ≤ 9223372036854775807 by omega), decide_eq_true (show p ≤ 9223372036854775807 by omega), decide_eq_true (show ch ≤ 9223372036854775807 by omega), Bool.and_true]
    rw [w64 (show -9223372036854775808 ≤ c by omega) (by omega), w64 (show -9223372036854775808 ≤ q by omega) (by omega), w64 (show -9223372036854775808 ≤ p by omega) (by omega), w64 (show -9223372036854775808 ≤ ch by omega) (by omega)]
  have hat : wrap64 (((A ++ r4).size : Int) - (r4.size : Int)) = A.size := by rw [w64 (by omega) (by omega)]; omega
  have ht : Ev (fun k => word_Take.f k (A ++ r4) A.size 64) (t, ((A.size + (putB t.size ++ t).size : Nat) : Int), 0) := by
    refine Ev.all ((A ++ r4).size + 60) fun k hk => ?_
    have := take_put t r5 A 64 (by omega) (by omega) (by omega) (by show (A ++ ((putB t.size ++ t) ++ r5)).size ≤ _; rw [← hr4]; omega) k (by show (A ++ ((putB t.size ++ t) ++ r5)).size + 60 ≤ k; rw [← hr4]; exact hk)
    rw [if_pos vl] at this
    rw [hr4]
    exact this
  have zt : (putB t.size ++ t).size = (putB t.size).size + t.size := ByteArray.size_append
  have hdiff : wrap64 (((A.size + (putB t.size ++ t).size : Nat) : Int) - (A.size : Int)) = ((putB t.size ++ t).size : Int) := by rw [w64 (by omega) (by omega)]; omega
  have htk : pack_Reader_Take.f r4 0 ((putB t.size ++ t).size : Int) = some (putB t.size ++ t, r5, 0) := by
    unfold pack_Reader_Take.f
    rw [if_pos rfl, if_pos ⟨by omega, by omega⟩, Int.toNat_natCast, hr4, app_take, app_cut]
  have hsim := Sim.begin r5 (by omega) 0 (by omega) (by omega)
  rw [show r5.extract (0 : Int).toNat r5.size = r5 by simp] at hsim
  obtain ⟨hf, _⟩ := fix_sim hsim (by omega)
  have e8 : r5.extract 0 8 = fixB u := by
    have := app_take (fixB u) y
    rw [z6] at this
    rw [hr5]; exact this
  have e9 : r5.extract 8 r5.size = y := by
    have := app_cut (fixB u) y
    rw [z6] at this
    rw [hr5]; exact this
  rw [e8, e9, fixV_put u hur.1 hur.2] at hf
  obtain ⟨f1, _⟩ := float_is u hur.1 hur.2
  rw [hfix] at f1
  obtain ⟨cc, _⟩ := canon_is u hur.1 hur.2
  rw [hcn] at cc
  have hbad : rdMove.bad true u c q p ch t u = some false := by
    unfold rdMove.bad
    rw [if_neg (by decide), cc]
    simp only [Option.bind_some, Bool.true_eq_false, if_false, o]
    rfl
  unfold rdMove.f
  simp only [hfour, Option.bind_some, ne_eq, not_true_eq_false, if_false, hat]
  refine Ev.bind ht ?_
  simp only [ne_eq, not_true_eq_false, if_false, hdiff, htk, Option.bind_some, hf, f1, List.getD_cons_zero, List.getD_cons_succ, hbad]
  exact Ev.now _
theorem fwd_l (l : List Mv) : ∀ (P : ByteArray) (out : List Mv) (X : ByteArray), (∀ m ∈ l, OneP m ∧ RankP m) → (P ++ (flat l ++ X)).size ≤ 140737488351232 → (∀ j : Nat, 0 < j → out.length ≤ j → j < (out ++ l).length → BefP (rdM (out ++ l) ((j : Int) - 1)) (rdM (out ++ l) j)) →
    Ev (fun k => rows_Decode.g k (P ++ (flat l ++ X)) l.length out (flat l ++ X) 0) (if X.size = 0 then (out ++ l, 0) else ([], 5)) := by
  induction l with
  | nil =>
    intro P out X h hz hb
    have e : flat [] ++ X = X := by simp [flat]
    rw [e]
    simp only [List.length_nil]
    unfold rows_Decode.g pack_Reader_Done.f pack_Reader_Err.f pack_Reader_Left.f
    simp only [Option.bind_some, if_true, List.append_nil]
    by_cases hx : X.size = 0
    · simp only [hx, Int.natCast_zero, if_true, Option.bind_some, ne_eq, not_true_eq_false, if_false]
      exact Ev.now _
    · simp only [if_neg (show ¬ (X.size : Int) = 0 by omega), if_neg hx, Option.bind_some]
      exact Ev.now _
  | cons m l ih =>
    intro P out X h hz hb
    have e : flat (m :: l) ++ X = oneB m ++ (flat l ++ X) := by simp only [flat, ByteArray.append_assoc]
    rw [e] at hz ⊢
    have hone := fwd_one P m (flat l ++ X) (h m List.mem_cons_self).1 (h m List.mem_cons_self).2 hz
    simp only [List.length_cons]
    unfold rows_Decode.g
    refine Ev.bind hone ?_
    simp only [ne_eq, not_true_eq_false, if_false]
    have hbm : 0 < out.length → BefP (rdM out ((out.length : Int) - 1)) m := fun h0 => by
      have := hb out.length h0 (Nat.le_refl _) (by simp)
      rw [rd_pred _ _ h0, rd_app_left _ _ _ (by omega), ← rd_pred _ _ h0, rd_mem (by simp)] at this
      simpa using this
    have hord : Ev (fun k : Nat => if out.length = 0 then some true else rank_Before.f (rdM out ((out.length : Int) - 1)).f0.f0 (rdM out ((out.length : Int) - 1)).f0.f1 m.f0.f0 m.f0.f1) true := by
      by_cases h0 : out.length = 0
      · simp only [if_pos h0]
        exact Ev.now _
      · simp only [if_neg h0, rank_Before.f]
        rw [show beforeB _ _ _ _ = true from hbm (by omega)]
        exact Ev.now _
    refine Ev.bind hord ?_
    simp only [Bool.true_eq_false, if_false]
    have eS : P ++ (oneB m ++ (flat l ++ X)) = (P ++ oneB m) ++ (flat l ++ X) := by simp only [ByteArray.append_assoc]
    rw [eS] at hz ⊢
    have := ih (P ++ oneB m) (out ++ [m]) X (fun x hx => h x (List.mem_cons_of_mem _ hx)) hz (fun j h0 h1 h2 => by
      rw [List.append_assoc] at h2 ⊢
      exact hb j h0 (by simp at h1; omega) h2)
    rw [List.append_assoc] at this
    exact this
theorem fileB_begin (l : List Mv) (X : ByteArray) : fileB l ++ X = beginB ++ (putB l.length ++ (flat l ++ X)) := by
  unfold fileB
  simp only [ByteArray.append_assoc]
theorem ver_begin (Y : ByteArray) (hY : 1 ≤ Y.size) : verOf (beginB ++ Y) = (1, 0) := by
  have hz : (beginB ++ Y).size = 5 + Y.size := by rw [ByteArray.size_append, beginB_size]
  have e4 : (beginB ++ Y).extract 0 4 = magicB := by
    have h5 : ((beginB ++ Y).extract 0 5).extract 0 4 = (beginB ++ Y).extract 0 4 := take_take (by omega)
    have h6 := app_take beginB Y
    rw [beginB_size] at h6
    rw [← h5, h6]
    decide +kernel
  have eb : bt (beginB ++ Y) 4 = 1 := by
    rw [bt_app_left (by omega) (by rw [beginB_size]; omega)]
    decide +kernel
  unfold verOf
  rw [if_pos ⟨by omega, e4⟩, if_neg (by omega), eb]
theorem decode_file (l : List Mv) (X : ByteArray) (hm : MayP l) (hr : ∀ m ∈ l, RankP m) (hz : (fileB l ++ X).size ≤ 140737488351232) : Ev (fun k => rows_Decode.f k (fileB l ++ X)) (if X.size = 0 then (l, 0) else ([], 5)) := by
  have zp := putB_size (l.length : Int)
  have zf : (fileB l ++ X).size = 5 + ((putB l.length).size + ((flat l).size + X.size)) := by rw [fileB_begin]; simp only [ByteArray.size_append, beginB_size]
  have hv := version_is (fileB l ++ X)
  rw [fileB_begin, ver_begin _ (by rw [ByteArray.size_append]; omega)] at hv
  have hf := hm.few
  have hcut : (beginB ++ (putB l.length ++ (flat l ++ X))).extract 5 (beginB ++ (putB l.length ++ (flat l ++ X))).size = putB l.length ++ (flat l ++ X) := by
    have := app_cut beginB (putB l.length ++ (flat l ++ X))
    rwa [beginB_size] at this
  have hn := num_put_read (l.length : Int) (by omega) (by omega) (flat l ++ X) (by rw [ByteArray.size_append]; omega)
  have h5 : 5 ≤ ((beginB ++ (putB l.length ++ (flat l ++ X))).size : Int) := by rw [← fileB_begin]; omega
  rw [fileB_begin]
  unfold rows_Decode.f
  simp only [hv, Option.bind_some, ne_eq, not_true_eq_false, if_false, if_pos h5, pack_New.f, hcut, hn, if_neg (show ¬ (l.length : Int) > 2000 by omega), if_neg (show ¬ (l.length : Int) < 0 by omega), Int.toNat_natCast]
  have := fwd_l l (beginB ++ putB l.length) [] X (fun m h => ⟨hm.one m h, hr m h⟩) (by rw [ByteArray.append_assoc, ← fileB_begin]; exact hz) (fun j h0 _ h2 => hm.up j h0 h2)
  rw [ByteArray.append_assoc] at this
  exact this
theorem file_begin {l l' : List Mv} {X : ByteArray} (h : fileB l = fileB l' ++ X) (hm : MayP l) (hr : ∀ m ∈ l, RankP m) (hm' : MayP l') (hr' : ∀ m ∈ l', RankP m) (hz : (fileB l).size ≤ 140737488351232) : X.size = 0 := by
  have h1 := decode_file l ByteArray.empty hm hr (by rw [ByteArray.append_empty]; exact hz)
  rw [if_pos (show ByteArray.empty.size = 0 from rfl), ByteArray.append_empty] at h1
  have h2 := decode_file l' X hm' hr' (by rw [← h]; exact hz)
  rw [← h] at h2
  have := Ev.det h1 h2
  apply Classical.byContradiction
  intro hx
  rw [if_neg hx] at this
  have h0 : (0 : Int) = 5 := congrArg Prod.snd this
  omega
end Go.Proofs.Ytfgnjndfnijjoaa.RowsF
end
section
namespace Go.Proofs.Ytfgnjndfnijjoaa.Pure
set_option linter.unusedSimpArgs false
open Go.RowKit Go.Proofs.Ytfgnjndfnijjoaa.Print Go.Proofs.YtfgnjndfnijjoaaW.PrintWords Go.Proofs.YtfgnjndfnijjoaaW.PrintLast Go.Proofs.YtfgnjndfnijjoaaW.PrintMore Go.Proofs.Ytfgnjndfnijjoaa.LibA Go.Proofs.Ytfgnjndfnijjoaa.LibB Go.Proofs.Ytfgnjndfnijjoaa.LibC Go.Proofs.Ytfgnjndfnijjoaa.LibD Go.Proofs.Ytfgnjndfnijjoaa.LibE Go.Proofs.Ytfgnjndfnijjoaa.LibF Go.Proofs.Ytfgnjndfnijjoaa.LibG Go.Proofs.Ytfgnjndfnijjoaa.RowsA Go.Proofs.Ytfgnjndfnijjoaa.RowsB Go.Proofs.Ytfgnjndfnijjoaa.RowsC Go.Proofs.Ytfgnjndfnijjoaa.RowsL Go.Proofs.Ytfgnjndfnijjoaa.RowsD Go.Proofs.Ytfgnjndfnijjoaa.RowsE Go.Proofs.Ytfgnjndfnijjoaa.RowsF
theorem sane_may {m : Mv} (ho : OneP m) (hr : RankP m) : Sane m := by
  obtain ⟨c1, c2, r1, r2, k1, k2, p1, p2, nm, vl⟩ := ho
  exact ⟨by omega, ⟨by omega, by omega⟩, ⟨by omega, by omega⟩, ⟨by omega, by omega⟩, ⟨by omega, by omega⟩, _, hr⟩
theorem back_j4 (s : ByteArray) (hs : s.size ≤ 1000) : Ev (fun k => bonsailaw21_RowsBack.j4 k s) true := by
  obtain ⟨R, hR⟩ := decode_is s (by omega)
  refine Ev.succ ?_
  simp only [bonsailaw21_RowsBack.j4]
  refine Ev.bind hR.prog ?_
  by_cases he : R.2 = 0
  · obtain ⟨hm, hr, hf⟩ := hR.may he
    simp only [if_pos he]
    refine Ev.bind (encode_is R.1 (reads_len hR) (fun m hx => sane_may (hm.one m hx) (hr m hx))) ?_
    simp only [if_pos hm, if_true, ← hf]
    exact Ev.bind live_ev (Ev.now _)
  · simp only [if_neg he, hR.none he, List.length_nil, Int.natCast_zero, if_true]
    exact Ev.bind live_ev (Ev.now _)
theorem RowsBack : ∀ (l0 : List Print.S30) (a1 : ByteArray) (a2 : Int), l0.length ≤ maxLen → (∀ x ∈ l0, (((Lit.int .i64 x.f0.f0).wf = true ∧ (Lit.int .i64 x.f0.f1).wf = true) ∧ (Lit.int .i64 x.f1).wf = true ∧ (Lit.int .i64 x.f2).wf = true ∧ x.f3.size ≤ maxLen ∧ (∃ b, FB b x.f4))) → a1.size ≤ 140737488351232 → (Lit.int .i64 a2).wf = true → ∃ k, bonsailaw21_RowsBack.f k l0 a1 a2 = some true := by
  intro l s at_ hl hq hs hat
  refine Ev.rounds (g := fun k => bonsailaw21_RowsBack.f k l s at_) ?_
  unfold bonsailaw21_RowsBack.f
  obtain ⟨b, hb, hb2⟩ := few_is l 40 hl
  refine Ev.bind hb ?_
  have hlive : Ev (fun k => bonsailaw21_RowsBack.j0 k l s at_ true) true := by
    refine Ev.succ ?_
    simp only [bonsailaw21_RowsBack.j0, if_true]
    exact Ev.bind live_ev (Ev.now _)
  cases b with
  | false => simp only [Bool.false_eq_true, if_false]; exact hlive
  | true =>
    obtain ⟨h1, h2⟩ := hb2 rfl
    simp only [if_true]
    by_cases hbig : (s.size : Int) > 1000
    · rw [decide_eq_true hbig]
      exact hlive
    rw [decide_eq_false hbig]
    have hj4 := back_j4 s (by omega)
    have hsane : ∀ m ∈ l, Sane m := fun m hm => sane_of (hq m hm) (h2 m hm)
    have hrank : ∀ m ∈ l, RankP m := fun m hm => by
      obtain ⟨b, hb⟩ := (hq m hm).2.2.2.2
      exact (canon_of b _ hb).2
    refine Ev.succ ?_
    simp only [bonsailaw21_RowsBack.j0, Bool.false_eq_true, if_false]
    refine Ev.bind (encode_is l hl hsane) ?_
    refine Ev.bind (refMay_is l) ?_
    by_cases hm : MayP l
    rotate_left
    · simp only [if_neg hm, decide_eq_false hm, show (((1 : Int) == 0) != false) = false from rfl, Bool.false_eq_true, if_false, show ¬ ((1 : Int) = 0) by decide, show (ByteArray.empty.toList != ([] : List UInt8)) = false by decide +kernel]
      refine Ev.succ ?_
      simp only [bonsailaw21_RowsBack.j1, Bool.false_eq_true, if_false, show ¬ ((1 : Int) = 0) by decide]
      exact hj4
    have hfs := flat_size l (may_names hm)
    have hp := putB_size (l.length : Int)
    have hz : (fileB l).size = 5 + (putB l.length).size + (flat l).size := by
      unfold fileB
      simp only [ByteArray.size_append, beginB_size]
    have hdec := decode_file l ByteArray.empty hm hrank (by rw [ByteArray.append_empty]; omega)
    rw [if_pos (show ByteArray.empty.size = 0 from rfl), ByteArray.append_empty] at hdec
    have hver := version_is (fileB l)
    have hfe := fileB_begin l ByteArray.empty
    rw [ByteArray.append_empty, ByteArray.append_empty] at hfe
    rw [show verOf (fileB l) = (1, 0) by rw [hfe]; exact ver_begin _ (by rw [ByteArray.size_append]; omega)] at hver
    simp only [if_pos hm, decide_eq_true hm, show (((0 : Int) == 0) != true) = false from rfl, Bool.false_eq_true, if_false, if_true]
    refine Ev.succ ?_
    simp only [bonsailaw21_RowsBack.j1, Bool.false_eq_true, if_false, if_true]
    refine Ev.bind hdec ?_
    simp only [hver, Option.bind_some, if_true]
    refine Ev.bind (same_refl l (by omega)) ?_
    simp only [if_true, show ((0 : Int) != 0) = false from rfl]
    refine Ev.succ ?_
    simp only [bonsailaw21_RowsBack.j2, Bool.false_eq_true, if_false]
    have hend : Ev (fun k => bonsailaw21_RowsBack.j3 k s at_ (fileB l) false) true := by
      refine Ev.succ ?_
      simp only [bonsailaw21_RowsBack.j3, Bool.false_eq_true, if_false]
      exact hj4
    by_cases h0 : at_ ≥ 0
    rotate_left
    · simp only [if_neg h0]
      exact hend
    simp only [if_pos h0]
    by_cases hlt : at_ < ((fileB l).size : Int)
    rotate_left
    · simp only [decide_eq_false hlt]
      exact hend
    simp only [decide_eq_true hlt]
    refine Ev.succ ?_
    simp only [bonsailaw21_RowsBack.j3, if_true, if_pos (show (0 : Int) ≤ at_ from h0), if_pos (show at_ ≤ ((fileB l).size : Int) by omega)]
    have hcz : ((fileB l).extract 0 at_.toNat).size = at_.toNat := size_take (by omega)
    obtain ⟨R, hR⟩ := decode_is ((fileB l).extract 0 at_.toNat) (by omega)
    refine Ev.bind hR.prog ?_
    by_cases he : R.2 = 0
    · exfalso
      obtain ⟨hm', hr', hf'⟩ := hR.may he
      have hx := take_drop (fileB l) at_.toNat (by omega)
      rw [hf'] at hx
      have := file_begin hx.symm hm hrank hm' hr' (by omega)
      rw [ByteArray.size_extract] at this
      omega
    · simp only [if_neg he, hR.none he, List.length_nil, Int.natCast_zero, if_true]
      exact hj4
end Go.Proofs.Ytfgnjndfnijjoaa.Pure
end
