/- Part 3 of what RowsReads stands on: merged by a program of this session out of its texts. -/
import Derived.Test.YtfgnjndfnijjoaaCRowsReads2
section
namespace Go.Proofs.Ytfgnjndfnijjoaa.Print
open Go.RowKit Go.Proofs.YtfgnjndfnijjoaaW.PrintWords Go.Proofs.YtfgnjndfnijjoaaW.PrintLast Go.Proofs.YtfgnjndfnijjoaaW.PrintMore
attribute [local go_sem] max2_int min2_int max_two min_two max_three min_three max_four min_four
attribute [local go_sem] run_store_float
set_option linter.unusedVariables false
set_option linter.unusedSimpArgs false
attribute [local go_sem high] eqA27
def bonsairef01_None.f  : Option (Int) := some 9221120237041090560
set_option maxHeartbeats 8000000 in
set_option maxRecDepth 100000 in
theorem bonsairef01_None.calls  (r : Int) (w : World) (h : bonsairef01_None.f  = some r) :
    Calls Try.prog 49 #[] w fun e w' => e = .returned (.int .u64 r) ∧ Drawn0 w w' := by
  have H : (some 9221120237041090560) = some r := h
  clear h
  obtain rfl := Option.some.inj H
  go_enter Try.func49, Try.ntmps49
  go_wp2
  go_ret
  exact ⟨by first | rfl | (simp; done) | (simp [*]; done), by repeat (first | exact Drawn0.refl _ | apply Drawn0.step)⟩
set_option maxHeartbeats 8000000 in
set_option maxRecDepth 100000 in
theorem bonsairef01_Minus.calls1 (b : Nat) (s : Bool) (w : World) (h1 : (FloatKind.f64.format.order b 0 == some .lt) = s) (h2 : (FloatKind.f64.format.order b 0 == some .eq) = false) :
    Calls Try.prog 50 #[.float .f64 b] w fun e w' => e = .returned (.bool s) ∧ Drawn0 w w' := by
  go_enter Try.func50, Try.ntmps50
  cases s
  · go_wp2
    go_ret
    exact ⟨rfl, Drawn0.refl _⟩
  · go_wp2
    go_ret
    exact ⟨rfl, Drawn0.refl _⟩
set_option maxHeartbeats 8000000 in
set_option maxRecDepth 100000 in
theorem bonsairef01_Minus.calls0 (s : Bool) (w : World) :
    Calls Try.prog 50 #[.float .f64 (Fl.zero s)] w fun e w' => e = .returned (.bool s) ∧ Drawn0 w w' := by
  have h1 : (FloatKind.f64.format.order (Fl.zero s) 0 == some .lt) = false := by cases s <;> decide
  have h2 : (FloatKind.f64.format.order (Fl.zero s) 0 == some .eq) = true := by cases s <;> decide
  have h3 : ∀ W, (binOp .quo 28 (.float .f64 4607182418800017408) (.float .f64 (Fl.zero s))).run Try.prog W = .ok (.float .f64 (Fl.inf s)) W := fun W => run_float_arith W .quo 28 .f64 _ _ _ (by cases s <;> decide)
  have h4 : (FloatKind.f64.format.order (Fl.inf s) 0 == some .lt) = s := by cases s <;> decide
  go_enter Try.func50, Try.ntmps50
  go_wp2
  go_ret
  exact ⟨rfl, Drawn0.refl _⟩
def bonsairef01_Bits.f (a0 : Int) : Option Int := some a0
set_option maxHeartbeats 8000000 in
set_option maxRecDepth 100000 in
theorem ref_none (w : World) : Calls Try.prog 49 #[] w fun e w' => e = .returned (.int .u64 9221120237041090560) ∧ w' = w := by
  go_enter Try.func49, Try.ntmps49
  go_wp2
  go_ret
  exact ⟨rfl, rfl⟩
set_option maxHeartbeats 8000000 in
set_option maxRecDepth 100000 in
theorem ref_top (w : World) : Calls Try.prog 51 #[] w fun e w' => e = .returned (.int .u64 9223372036854775808) ∧ w' = w := by
  go_enter Try.func51, Try.ntmps51
  go_wp2
  go_ret
  exact ⟨rfl, rfl⟩
set_option maxHeartbeats 8000000 in
set_option maxRecDepth 100000 in
theorem bonsairef01_Bits.nan (bv0 : Nat) (w : World) (hn : 9218868437227405312 < bv0 % 9223372036854775808) :
    Calls Try.prog 27 #[.float .f64 bv0] w fun e_ w' => e_ = .returned (.int .u64 (canonF bv0 : Nat)) ∧ Below w.heap.size w w' := by
  have h1 := (Fl.order_nan hn 0).1
  have h2 := (Fl.order_nan hn bv0).1
  have g1 : (FloatKind.f64.format.order bv0 0 == some .lt) = false := by show (Ieee.double.order bv0 0 == some .lt) = false; rw [h1]; rfl
  have g2 : (FloatKind.f64.format.order bv0 0 == some .eq) = false := by show (Ieee.double.order bv0 0 == some .eq) = false; rw [h1]; rfl
  have g3 : (FloatKind.f64.format.order bv0 bv0 != some .eq) = true := by show (Ieee.double.order bv0 bv0 != some .eq) = true; rw [h2]; rfl
  have hc : canonF bv0 = 9221120237041090560 := by unfold canonF; rw [if_pos hn]
  rw [hc]
  clear h1 h2
  go_enter Try.func27, Try.ntmps27
  go_wp2_with (first | (go_at_call 50; (with_reducible refine (bonsairef01_Minus.calls1 _ false _ g1 g2).mono ?_); rintro e' w1 ⟨rfl, nd, rfl⟩) | (go_at_call 49; (with_reducible refine (ref_none _).mono ?_); rintro e' w1 ⟨rfl, rfl⟩) | (go_at_call 51; (with_reducible refine (ref_top _).mono ?_); rintro e' w1 ⟨rfl, rfl⟩))
  go_ret
  exact ⟨rfl, by first | exact pw_below_drewN (Below.refl _ _) _ | exact Below.refl _ _⟩
set_option maxHeartbeats 8000000 in
set_option maxRecDepth 100000 in
theorem bonsairef01_Bits.zero (s : Bool) (w : World) :
    Calls Try.prog 27 #[.float .f64 (Fl.zero s)] w fun e_ w' => e_ = .returned (.int .u64 (canonF (Fl.zero s) : Nat)) ∧ Below w.heap.size w w' := by
  have g3 : (FloatKind.f64.format.order (Fl.zero false) (Fl.zero false) != some .eq) = false := by decide
  have g4 : (FloatKind.f64.format.order (Fl.zero false) 0 == some .eq) = true := by decide
  have hng := neg_zero
  have hc : ((canonF (Fl.zero s) : Nat) : Int) = (if s then 9223372036854775808 else 0) := by cases s <;> decide
  rw [hc]
  cases s
  · go_enter Try.func27, Try.ntmps27
    go_wp2_with (first | (go_at_call 50; (with_reducible refine (bonsairef01_Minus.calls0 false _).mono ?_); rintro e' w1 ⟨rfl, nd, rfl⟩) | (go_at_call 49; (with_reducible refine (ref_none _).mono ?_); rintro e' w1 ⟨rfl, rfl⟩) | (go_at_call 51; (with_reducible refine (ref_top _).mono ?_); rintro e' w1 ⟨rfl, rfl⟩))
    go_ret
    exact ⟨rfl, by first | exact pw_below_drewN (Below.refl _ _) _ | exact Below.refl _ _⟩
  · go_enter Try.func27, Try.ntmps27
    go_wp2_with (first | (go_at_call 50; (with_reducible refine (bonsairef01_Minus.calls0 true _).mono ?_); rintro e' w1 ⟨rfl, nd, rfl⟩) | (go_at_call 49; (with_reducible refine (ref_none _).mono ?_); rintro e' w1 ⟨rfl, rfl⟩) | (go_at_call 51; (with_reducible refine (ref_top _).mono ?_); rintro e' w1 ⟨rfl, rfl⟩))
    go_ret
    exact ⟨rfl, by first | exact pw_below_drewN (Below.refl _ _) _ | exact Below.refl _ _⟩
set_option maxHeartbeats 8000000 in
set_option maxRecDepth 100000 in
theorem bonsairef01_Bits.inf (s : Bool) (w : World) :
    Calls Try.prog 27 #[.float .f64 (Fl.inf s)] w fun e_ w' => e_ = .returned (.int .u64 (canonF (Fl.inf s) : Nat)) ∧ Below w.heap.size w w' := by
  have g1 : (FloatKind.f64.format.order (Fl.inf s) 0 == some .lt) = s := by cases s <;> decide
  have g2 : (FloatKind.f64.format.order (Fl.inf s) 0 == some .eq) = false := by cases s <;> decide
  have g3 : (FloatKind.f64.format.order (Fl.inf false) (Fl.inf false) != some .eq) = false := by decide
  have g4 : (FloatKind.f64.format.order (Fl.inf false) 0 == some .eq) = false := by decide
  have g5 : ∀ W, (binOp .mul 28 (.float .f64 (Fl.inf false)) (.float .f64 4611686018427387904)).run Try.prog W = .ok (.float .f64 (Fl.inf false)) W := fun W => run_float_arith W .mul 28 .f64 _ _ _ (by decide)
  have g6 : (FloatKind.f64.format.order (Fl.inf false) (Fl.inf false) == some .eq) = true := by decide
  have hng := neg_inf
  have hc : ((canonF (Fl.inf s) : Nat) : Int) = (if s then 18442240474082181120 else 9218868437227405312) := by cases s <;> decide
  rw [hc]
  cases s
  · go_enter Try.func27, Try.ntmps27
    go_wp2_with (first | (go_at_call 50; (with_reducible refine (bonsairef01_Minus.calls1 _ _ _ g1 g2).mono ?_); rintro e' w1 ⟨rfl, nd, rfl⟩) | (go_at_call 49; (with_reducible refine (ref_none _).mono ?_); rintro e' w1 ⟨rfl, rfl⟩) | (go_at_call 51; (with_reducible refine (ref_top _).mono ?_); rintro e' w1 ⟨rfl, rfl⟩))
    go_ret
    exact ⟨rfl, by first | exact pw_below_drewN (Below.refl _ _) _ | exact Below.refl _ _⟩
  · go_enter Try.func27, Try.ntmps27
    go_wp2_with (first | (go_at_call 50; (with_reducible refine (bonsairef01_Minus.calls1 _ _ _ g1 g2).mono ?_); rintro e' w1 ⟨rfl, nd, rfl⟩) | (go_at_call 49; (with_reducible refine (ref_none _).mono ?_); rintro e' w1 ⟨rfl, rfl⟩) | (go_at_call 51; (with_reducible refine (ref_top _).mono ?_); rintro e' w1 ⟨rfl, rfl⟩))
    go_ret
    exact ⟨rfl, by first | exact pw_below_drewN (Below.refl _ _) _ | exact Below.refl _ _⟩
set_option maxHeartbeats 8000000 in
set_option maxRecDepth 100000 in
theorem bonsairef01_Bits.fin (s : Bool) {m : Nat} {e : Int} (w : World) (hm : m ≠ 0) (hm2 : m < 9007199254740992) (he : -1074 ≤ e) (hE : e + m.log2 ≤ 1023)
    (hform : (m < 4503599627370496 ∧ e = -1074 ∧ m.log2 ≤ 51 ∧ Fl.rung m e = m) ∨ (4503599627370496 ≤ m ∧ m.log2 = 52 ∧ e ≤ 971 ∧ (Fl.rung m e : Int) = (e + 1074) * 4503599627370496 + m)) :
    Calls Try.prog 27 #[.float .f64 (Ieee.double.word s (Fl.rung m e))] w fun e_ w' => e_ = .returned (.int .u64 (canonF (Ieee.double.word s (Fl.rung m e)) : Nat)) ∧ Below w.heap.size w w' := by
  obtain ⟨hfin1, hfin2, hfin3⟩ := Fl.read_rung s hm hm2 he hE
  have oz := Fl.order_zero s hm hm2 he hE
  have g1 : (FloatKind.f64.format.order (Ieee.double.word s (Fl.rung m e)) 0 == some .lt) = s := oz.1
  have g2 : (FloatKind.f64.format.order (Ieee.double.word s (Fl.rung m e)) 0 == some .eq) = false := oz.2
  have os := Fl.order_self_fin false hm hm2 he hE (Fl.rung m e) (Fl.word_false _).symm
  have g3 : (FloatKind.f64.format.order (Fl.rung m e) (Fl.rung m e) != some .eq) = false := by show (Ieee.double.order _ _ != some .eq) = false; rw [os]; rfl
  have oz2 := (Fl.order_zero false hm hm2 he hE).2
  rw [Fl.word_false] at oz2
  have g4 : (FloatKind.f64.format.order (Fl.rung m e) 0 == some .eq) = false := oz2
  have g5 := Fl.mul_two false hm hm2 (e := e) (k := 1) he hE (by omega) (by omega) (by omega)
  rw [Fl.word_false, Fl.word_false, rung_1] at g5
  have g5' : ∀ W, (binOp .mul 28 (.float .f64 (Fl.rung m e)) (.float .f64 4611686018427387904)).run Try.prog W = .ok (.float .f64 (Fl.rung m (e + 1))) W := fun W => run_float_arith W .mul 28 .f64 _ _ _ g5
  have g6 : (FloatKind.f64.format.order (Fl.rung m (e + 1)) (Fl.rung m e) == some .eq) = false := (Fl.order_double hm hm2 he hE).2
  have oss := Fl.order_self_fin s hm hm2 he hE _ rfl
  have g3s : (FloatKind.f64.format.order (Ieee.double.word s (Fl.rung m e)) (Ieee.double.word s (Fl.rung m e)) != some .eq) = false := by show (Ieee.double.order _ _ != some .eq) = false; rw [oss]; rfl
  clear oss
  have hL := Fl.log2_lt53 hm hm2
  have hng := fun W => neg_run Try.prog W s (r := Fl.rung m e) (by omega)
  have HN := Aside0.mk hng
  clear hng g5 oz oz2 os hfin1 hfin3
  rw [Fl.canonF_fin s (by omega), Fl.word_val]
  obtain ⟨L, hLd⟩ : ∃ L : Int, L = (m.log2 : Int) := ⟨_, rfl⟩
  obtain ⟨R, hR⟩ : ∃ R : Int, R = (Fl.rung m e : Int) := ⟨_, rfl⟩
  have hres : Aside0 (∃ D : Nat, D < 4503599627370496 ∧ ((L ≤ 51 ∧ e = -1074 ∧ D = m ∧ R = D) ∨ (L = 52 ∧ m = D + 4503599627370496 ∧ R = (e + 1075) * 4503599627370496 + D))) := by
    rcases hform with ⟨f1, f2, f3, f4⟩ | ⟨f1, f2, f3, f4⟩
    · exact ⟨m, f1, .inl ⟨by omega, f2, rfl, by omega⟩⟩
    · exact ⟨m - 4503599627370496, by omega, .inr ⟨by omega, by omega, by omega⟩⟩
  rw [← hR]
  have hR' := Aside0.mk hR
  have hE' : e + L ≤ 1023 := by omega
  clear hform hR hfin2
  obtain ⟨e0, he0⟩ : ∃ e0, e0 = e := ⟨_, rfl⟩
  have hxx : Aside0 (e = e0) := ⟨he0.symm⟩
  cases s
  · rw [Fl.word_false] at g1 g2 ⊢
    go_enter Try.func27, Try.ntmps27
    go_wp2_with (first | (go_at_call 50; (with_reducible refine (bonsairef01_Minus.calls1 _ _ _ g1 g2).mono ?_); rintro e' w1 ⟨rfl, nd, rfl⟩) | (go_at_call 49; (with_reducible refine (ref_none _).mono ?_); rintro e' w1 ⟨rfl, rfl⟩) | (go_at_call 51; (with_reducible refine (ref_top _).mono ?_); rintro e' w1 ⟨rfl, rfl⟩))
    go_loopg [0, 4] 3000 (fun kq v0 v4 w' => ∃ (x n : Int), v0 = .float .f64 (Fl.rung m x) ∧ v4 = .int .u64 n ∧ Aside0 (x + L < kq ∧ n + x = 1023 + e0 ∧ -1074 ≤ x ∧ x + L ≤ 1023 ∧ x ≤ e0 ∧ (x = e0 ∨ 0 ≤ x + L)) ∧ Aside0 (Below w.heap.size w w'))
    case atStart => exact ⟨e, 1023, by rfl, by rfl, ⟨by have := hxx.out; omega⟩, ⟨by first | exact pw_below_drewN (Below.refl _ _) _ | exact Below.refl _ _⟩⟩
    case round =>
      obtain ⟨x, n, rfl, rfl, HK, HB⟩ := hrel
      have hk := HK.out
      have ro1 := (Fl.order_two hm hm2 (e := x) (k := 1) (by omega) (by omega) (by omega) (by omega)).2
      rw [rung_1] at ro1
      by_cases c1 : 1 ≤ x + m.log2
      · cases gk with
        | zero => exact absurd c1 (by omega)
        | succ k2 =>
          rw [decide_eq_true c1] at ro1
          have s1 : (FloatKind.f64.format.order (Fl.rung m x) 4611686018427387904 == some .gt || FloatKind.f64.format.order (Fl.rung m x) 4611686018427387904 == some .eq) = true := ro1
          have m1 := mul_at hm hm2 (e := x) (k := -1) (by omega) (by omega) (by omega) (by omega) (by omega)
          rw [rung_m1] at m1
          have rw2 : IntKind.u64.wrap (n + 1) = n + 1 := by rw [IntKind.wrap_u64]; omega
          clear ro1
          go_wp2
          go_roundg k2
          case measure => omega
          case rel => exact ⟨x + -1, n + 1, by rfl, by first | rfl | simp [goInt, rw2], ⟨by omega⟩, HB⟩
      · rw [decide_eq_false c1] at ro1
        have s1 : (FloatKind.f64.format.order (Fl.rung m x) 4611686018427387904 == some .gt || FloatKind.f64.format.order (Fl.rung m x) 4611686018427387904 == some .eq) = false := ro1
        clear ro1
        go_wp2
        go_loopg [0, 4] 3000 (fun kq v0 v4 w' => ∃ (x n : Int), v0 = .float .f64 (Fl.rung m x) ∧ v4 = .int .u64 n ∧ Aside0 (-(x + L) < kq ∧ x + L ≤ 0 ∧ n + x = 1023 + e0 ∧ -1074 ≤ x ∧ 1 ≤ n ∧ n ≤ 2046) ∧ Aside0 (Below w.heap.size w w'))
        case atStart => exact ⟨x, n, by rfl, by rfl, ⟨by omega⟩, HB⟩
        case round =>
          clear HB HK hk c1 s1
          obtain ⟨x, n, rfl, rfl, HK, HB⟩ := hrel
          have hk := HK.out
          have ro1 := (Fl.order_two hm hm2 (e := x) (k := 0) (by omega) (by omega) (by omega) (by omega)).1
          rw [rung_0] at ro1
          by_cases c1 : x + m.log2 < 0 ∧ 1 < n
          · cases gk with
            | zero => exact absurd c1.1 (by omega)
            | succ k2 =>
              rw [decide_eq_true c1.1] at ro1
              have s1 : (FloatKind.f64.format.order (Fl.rung m x) 4607182418800017408 == some .lt) = true := ro1
              have s2 : decide (n > 1) = true := decide_eq_true c1.2
              have m1 := mul_at hm hm2 (e := x) (k := 1) (by omega) (by omega) (by omega) (by omega) (by omega)
              rw [rung_1] at m1
              have rw2 : IntKind.u64.wrap (n - 1) = n - 1 := by rw [IntKind.wrap_u64]; omega
              clear ro1
              go_wp2
              go_roundg k2
              case measure => omega
              case rel => exact ⟨x + 1, n - 1, by rfl, by first | rfl | simp [goInt, rw2], ⟨by omega⟩, HB⟩
          · have s2 : decide (n > 1) = decide (1 < n) := rfl
            obtain ⟨D, hD, hDD⟩ := hres.out
            have hx : x = -52 := by have := hxx.out; omega
            have hfin : Aside0 (ite (L ≤ 51) 0 n * 4503599627370496 + D = R ∧ 0 ≤ ite (L ≤ 51) 0 n ∧ ite (L ≤ 51) 0 n ≤ 2046) := ⟨by
              have := hxx.out
              split <;> omega⟩
            have hfin' := hfin
            clear hfin
            have hR0 : ∀ i : Int, -52 ≤ i → i < 0 → ∀ W, (binOp .mul 28 (.float .f64 (Fl.R0 D i)) (.float .f64 4611686018427387904)).run Try.prog W = .ok (.float .f64 (Fl.R0 D (i + 1))) W := fun i h1 h2 W =>
              run_float_arith W .mul 28 .f64 _ _ _ (by have := Fl.R0_mul (D := D) (by omega) (x := i) (by omega) (by omega); rwa [rung_1] at this)
            have HR0 := Aside0.mk hR0
            have hti := toIntVal_of (Fl.R0_toInt (D := D) (by omega)) (by omega)
            have hti' : ∀ W, (convert 28 52 (.float .f64 (Fl.R0 D 0))).run Try.prog W = .ok (.int .u64 (D : Int)) W := fun W => run_convert_float_int W 28 52 .f64 .u64 _ _ (by kernel_rfl) Try.underlying52 hti
            clear hti hR0
            subst hx
            clear hk
            by_cases c2 : (m.log2 : Int) ≤ 51
            · have hfin : Aside0 ((D : Int) = R) := ⟨by have := hfin'.out; rw [if_pos (by omega)] at this; omega⟩
              have c2' : -52 + (m.log2 : Int) < 0 := by omega
              rw [decide_eq_true c2'] at ro1
              have s1 : (FloatKind.f64.format.order (Fl.rung m (-52)) 4607182418800017408 == some .lt) = true := ro1
              have s3 : decide (1 < n) = false := decide_eq_false (fun h => c1 ⟨c2', h⟩)
              have s4 : decide (n > 1) = false := s3
              have hR52 : Fl.rung m (-52) = Fl.R0 D (-52) := by
                have : D = m := by omega
                unfold Fl.R0
                rw [this, if_neg hm]
              have HR52 := Aside0.mk hR52
              clear ro1 hR52
              go_wp2
              go_loopg [0, 5] 60 (fun kq v0 v5 w' => ∃ (i : Int), v0 = .float .f64 (Fl.R0 D (i - 52)) ∧ v5 = .int .i64 i ∧ Aside0 (0 ≤ i ∧ i ≤ 52 ∧ 52 - i < kq) ∧ Aside0 (Below w.heap.size w w'))
              case atStart => exact ⟨0, by rw [HR52.out]; rfl, by rfl, ⟨by omega⟩, HB⟩
              case round =>
                clear HB
                obtain ⟨i, rfl, rfl, HK, HB⟩ := hrel
                have hk := HK.out
                by_cases c5 : i < 52
                · cases gk with
                  | zero => exact absurd c5 (by omega)
                  | succ k2 =>
                    have s5 : decide (i < 52) = true := decide_eq_true c5
                    have m1 := HR0.out (i - 52) (by omega) (by omega)
                    have rw2 : IntKind.i64.wrap (i + 1) = i + 1 := by rw [IntKind.wrap_i64]; omega
                    go_wp2
                    go_roundg k2
                    case measure => omega
                    case rel => exact ⟨i + 1, by rw [show i + 1 - 52 = i - 52 + 1 by omega], by first | rfl | simp [goInt, rw2], ⟨by omega⟩, HB⟩
                · have s5 : decide (i < 52) = false := decide_eq_false c5
                  have hi : i - 52 = 0 := by omega
                  rw [hi]
                  go_wp2
                  go_ret
                  refine ⟨?_, HB.out⟩
                  have hf := hfin.out
                  refine congrArg (fun x => Ending.returned (.int .u64 x)) ?_
                  (try rw [IntKind.wrap_u64, IntKind.wrap_u64, IntKind.wrap_u64])
                  (try rw [IntKind.wrap_u64, IntKind.wrap_u64])
                  (try rw [IntKind.wrap_u64])
                  (try simp only [Bool.false_eq_true, if_false, if_true])
                  omega
            · have hfin : Aside0 (n * 4503599627370496 + D = R ∧ 0 ≤ n ∧ n ≤ 2046) := ⟨by have := hfin'.out; rw [if_neg (by omega)] at this; omega⟩
              rw [decide_eq_false (by omega)] at ro1
              have s1 : (FloatKind.f64.format.order (Fl.rung m (-52)) 4607182418800017408 == some .lt) = false := ro1
              have hR52 : ∀ W, (binOp .sub 28 (.float .f64 (Fl.rung m (-52))) (.float .f64 4607182418800017408)).run Try.prog W = .ok (.float .f64 (Fl.R0 D (-52))) W := fun W =>
                run_float_arith W .sub 28 .f64 _ _ _ (by
                  have hl : m.log2 = 52 := by omega
                  have h1 := Fl.sub_one hm hm2 (by omega)
                  rw [hl, rung_0] at h1
                  have hD2 : m * 2 ^ (52 - 52) - 4503599627370496 = D := by
                    rw [Nat.sub_self, Nat.pow_zero, Nat.mul_one]; omega
                  rw [hD2] at h1
                  exact h1)
              clear ro1
              go_wp2
              go_loopg [0, 5] 60 (fun kq v0 v5 w' => ∃ (i : Int), v0 = .float .f64 (Fl.R0 D (i - 52)) ∧ v5 = .int .i64 i ∧ Aside0 (0 ≤ i ∧ i ≤ 52 ∧ 52 - i < kq) ∧ Aside0 (Below w.heap.size w w'))
              case atStart => exact ⟨0, by rfl, by rfl, ⟨by omega⟩, HB⟩
              case round =>
                clear HB
                obtain ⟨i, rfl, rfl, HK, HB⟩ := hrel
                have hk := HK.out
                by_cases c5 : i < 52
                · cases gk with
                  | zero => exact absurd c5 (by omega)
                  | succ k2 =>
                    have s5 : decide (i < 52) = true := decide_eq_true c5
                    have m1 := HR0.out (i - 52) (by omega) (by omega)
                    have rw2 : IntKind.i64.wrap (i + 1) = i + 1 := by rw [IntKind.wrap_i64]; omega
                    go_wp2
                    go_roundg k2
                    case measure => omega
                    case rel => exact ⟨i + 1, by rw [show i + 1 - 52 = i - 52 + 1 by omega], by first | rfl | simp [goInt, rw2], ⟨by omega⟩, HB⟩
                · have s5 : decide (i < 52) = false := decide_eq_false c5
                  have hi : i - 52 = 0 := by omega
                  rw [hi]
                  go_wp2
                  go_ret
                  refine ⟨?_, HB.out⟩
                  have hf := hfin.out
                  refine congrArg (fun x => Ending.returned (.int .u64 x)) ?_
                  (try rw [IntKind.wrap_u64, IntKind.wrap_u64, IntKind.wrap_u64])
                  (try rw [IntKind.wrap_u64, IntKind.wrap_u64])
                  (try rw [IntKind.wrap_u64])
                  (try simp only [Bool.false_eq_true, if_false, if_true])
                  omega
  · have hng : ∀ W, (Op.unary .neg (.float .f64 (Ieee.double.word true (Fl.rung m e)))).run Try.prog W = .ok (.float .f64 (Fl.rung m e)) W := fun W => by have := HN.out W; rwa [Bool.not_true, Fl.word_false] at this
    have hlt2 : True := trivial
    go_enter Try.func27, Try.ntmps27
    go_wp2_with (first | (go_at_call 50; (with_reducible refine (bonsairef01_Minus.calls1 _ _ _ g1 g2).mono ?_); rintro e' w1 ⟨rfl, nd, rfl⟩) | (go_at_call 49; (with_reducible refine (ref_none _).mono ?_); rintro e' w1 ⟨rfl, rfl⟩) | (go_at_call 51; (with_reducible refine (ref_top _).mono ?_); rintro e' w1 ⟨rfl, rfl⟩))
    go_loopg [0, 4] 3000 (fun kq v0 v4 w' => ∃ (x n : Int), v0 = .float .f64 (Fl.rung m x) ∧ v4 = .int .u64 n ∧ Aside0 (x + L < kq ∧ n + x = 1023 + e0 ∧ -1074 ≤ x ∧ x + L ≤ 1023 ∧ x ≤ e0 ∧ (x = e0 ∨ 0 ≤ x + L)) ∧ Aside0 (Below w.heap.size w w'))
    case atStart => exact ⟨e, 1023, by rfl, by rfl, ⟨by have := hxx.out; omega⟩, ⟨by first | exact pw_below_drewN (Below.refl _ _) _ | exact Below.refl _ _⟩⟩
    case round =>
      obtain ⟨x, n, rfl, rfl, HK, HB⟩ := hrel
      have hk := HK.out
      have ro1 := (Fl.order_two hm hm2 (e := x) (k := 1) (by omega) (by omega) (by omega) (by omega)).2
      rw [rung_1] at ro1
      by_cases c1 : 1 ≤ x + m.log2
      · cases gk with
        | zero => exact absurd c1 (by omega)
        | succ k2 =>
          rw [decide_eq_true c1] at ro1
          have s1 : (FloatKind.f64.format.order (Fl.rung m x) 4611686018427387904 == some .gt || FloatKind.f64.format.order (Fl.rung m x) 4611686018427387904 == some .eq) = true := ro1
          have m1 := mul_at hm hm2 (e := x) (k := -1) (by omega) (by omega) (by omega) (by omega) (by omega)
          rw [rung_m1] at m1
          have rw2 : IntKind.u64.wrap (n + 1) = n + 1 := by rw [IntKind.wrap_u64]; omega
          clear ro1
          go_wp2
          go_roundg k2
          case measure => omega
          case rel => exact ⟨x + -1, n + 1, by rfl, by first | rfl | simp [goInt, rw2], ⟨by omega⟩, HB⟩
      · rw [decide_eq_false c1] at ro1
        have s1 : (FloatKind.f64.format.order (Fl.rung m x) 4611686018427387904 == some .gt || FloatKind.f64.format.order (Fl.rung m x) 4611686018427387904 == some .eq) = false := ro1
        clear ro1
        go_wp2
        go_loopg [0, 4] 3000 (fun kq v0 v4 w' => ∃ (x n : Int), v0 = .float .f64 (Fl.rung m x) ∧ v4 = .int .u64 n ∧ Aside0 (-(x + L) < kq ∧ x + L ≤ 0 ∧ n + x = 1023 + e0 ∧ -1074 ≤ x ∧ 1 ≤ n ∧ n ≤ 2046) ∧ Aside0 (Below w.heap.size w w'))
        case atStart => exact ⟨x, n, by rfl, by rfl, ⟨by omega⟩, HB⟩
        case round =>
          clear HB HK hk c1 s1
          obtain ⟨x, n, rfl, rfl, HK, HB⟩ := hrel
          have hk := HK.out
          have ro1 := (Fl.order_two hm hm2 (e := x) (k := 0) (by omega) (by omega) (by omega) (by omega)).1
          rw [rung_0] at ro1
          by_cases c1 : x + m.log2 < 0 ∧ 1 < n
          · cases gk with
            | zero => exact absurd c1.1 (by omega)
            | succ k2 =>
              rw [decide_eq_true c1.1] at ro1
              have s1 : (FloatKind.f64.format.order (Fl.rung m x) 4607182418800017408 == some .lt) = true := ro1
              have s2 : decide (n > 1) = true := decide_eq_true c1.2
              have m1 := mul_at hm hm2 (e := x) (k := 1) (by omega) (by omega) (by omega) (by omega) (by omega)
              rw [rung_1] at m1
              have rw2 : IntKind.u64.wrap (n - 1) = n - 1 := by rw [IntKind.wrap_u64]; omega
              clear ro1
              go_wp2
              go_roundg k2
              case measure => omega
              case rel => exact ⟨x + 1, n - 1, by rfl, by first | rfl | simp [goInt, rw2], ⟨by omega⟩, HB⟩
          · have s2 : decide (n > 1) = decide (1 < n) := rfl
            obtain ⟨D, hD, hDD⟩ := hres.out
            have hx : x = -52 := by have := hxx.out; omega
            have hfin : Aside0 (ite (L ≤ 51) 0 n * 4503599627370496 + D = R ∧ 0 ≤ ite (L ≤ 51) 0 n ∧ ite (L ≤ 51) 0 n ≤ 2046) := ⟨by
              have := hxx.out
              split <;> omega⟩
            have hfin' := hfin
            clear hfin
            have hR0 : ∀ i : Int, -52 ≤ i → i < 0 → ∀ W, (binOp .mul 28 (.float .f64 (Fl.R0 D i)) (.float .f64 4611686018427387904)).run Try.prog W = .ok (.float .f64 (Fl.R0 D (i + 1))) W := fun i h1 h2 W =>
              run_float_arith W .mul 28 .f64 _ _ _ (by have := Fl.R0_mul (D := D) (by omega) (x := i) (by omega) (by omega); rwa [rung_1] at this)
            have HR0 := Aside0.mk hR0
            have hti := toIntVal_of (Fl.R0_toInt (D := D) (by omega)) (by omega)
            have hti' : ∀ W, (convert 28 52 (.float .f64 (Fl.R0 D 0))).run Try.prog W = .ok (.int .u64 (D : Int)) W := fun W => run_convert_float_int W 28 52 .f64 .u64 _ _ (by kernel_rfl) Try.underlying52 hti
            clear hti hR0
            subst hx
            clear hk
            by_cases c2 : (m.log2 : Int) ≤ 51
            · have hfin : Aside0 ((D : Int) = R) := ⟨by have := hfin'.out; rw [if_pos (by omega)] at this; omega⟩
              have c2' : -52 + (m.log2 : Int) < 0 := by omega
              rw [decide_eq_true c2'] at ro1
              have s1 : (FloatKind.f64.format.order (Fl.rung m (-52)) 4607182418800017408 == some .lt) = true := ro1
              have s3 : decide (1 < n) = false := decide_eq_false (fun h => c1 ⟨c2', h⟩)
              have s4 : decide (n > 1) = false := s3
              have hR52 : Fl.rung m (-52) = Fl.R0 D (-52) := by
                have : D = m := by omega
                unfold Fl.R0
                rw [this, if_neg hm]
              have HR52 := Aside0.mk hR52
              clear ro1 hR52
              go_wp2
              go_loopg [0, 5] 60 (fun kq v0 v5 w' => ∃ (i : Int), v0 = .float .f64 (Fl.R0 D (i - 52)) ∧ v5 = .int .i64 i ∧ Aside0 (0 ≤ i ∧ i ≤ 52 ∧ 52 - i < kq) ∧ Aside0 (Below w.heap.size w w'))
              case atStart => exact ⟨0, by rw [HR52.out]; rfl, by rfl, ⟨by omega⟩, HB⟩
              case round =>
                clear HB
                obtain ⟨i, rfl, rfl, HK, HB⟩ := hrel
                have hk := HK.out
                by_cases c5 : i < 52
                · cases gk with
                  | zero => exact absurd c5 (by omega)
                  | succ k2 =>
                    have s5 : decide (i < 52) = true := decide_eq_true c5
                    have m1 := HR0.out (i - 52) (by omega) (by omega)
                    have rw2 : IntKind.i64.wrap (i + 1) = i + 1 := by rw [IntKind.wrap_i64]; omega
                    go_wp2
                    go_roundg k2
                    case measure => omega
                    case rel => exact ⟨i + 1, by rw [show i + 1 - 52 = i - 52 + 1 by omega], by first | rfl | simp [goInt, rw2], ⟨by omega⟩, HB⟩
                · have s5 : decide (i < 52) = false := decide_eq_false c5
                  have hi : i - 52 = 0 := by omega
                  rw [hi]
                  go_wp2
                  go_ret
                  refine ⟨?_, HB.out⟩
                  have hf := hfin.out
                  refine congrArg (fun x => Ending.returned (.int .u64 x)) ?_
                  (try rw [IntKind.wrap_u64, IntKind.wrap_u64, IntKind.wrap_u64])
                  (try rw [IntKind.wrap_u64, IntKind.wrap_u64])
                  (try rw [IntKind.wrap_u64])
                  (try simp only [Bool.false_eq_true, if_false, if_true])
                  omega
            · have hfin : Aside0 (n * 4503599627370496 + D = R ∧ 0 ≤ n ∧ n ≤ 2046) := ⟨by have := hfin'.out; rw [if_neg (by omega)] at this; omega⟩
              rw [decide_eq_false (by omega)] at ro1
              have s1 : (FloatKind.f64.format.order (Fl.rung m (-52)) 4607182418800017408 == some .lt) = false := ro1
              have hR52 : ∀ W, (binOp .sub 28 (.float .f64 (Fl.rung m (-52))) (.float .f64 4607182418800017408)).run Try.prog W = .ok (.float .f64 (Fl.R0 D (-52))) W := fun W =>
                run_float_arith W .sub 28 .f64 _ _ _ (by
                  have hl : m.log2 = 52 := by omega
                  have h1 := Fl.sub_one hm hm2 (by omega)
                  rw [hl, rung_0] at h1
                  have hD2 : m * 2 ^ (52 - 52) - 4503599627370496 = D := by
                    rw [Nat.sub_self, Nat.pow_zero, Nat.mul_one]; omega
                  rw [hD2] at h1
                  exact h1)
              clear ro1
              go_wp2
              go_loopg [0, 5] 60 (fun kq v0 v5 w' => ∃ (i : Int), v0 = .float .f64 (Fl.R0 D (i - 52)) ∧ v5 = .int .i64 i ∧ Aside0 (0 ≤ i ∧ i ≤ 52 ∧ 52 - i < kq) ∧ Aside0 (Below w.heap.size w w'))
              case atStart => exact ⟨0, by rfl, by rfl, ⟨by omega⟩, HB⟩
              case round =>
                clear HB
                obtain ⟨i, rfl, rfl, HK, HB⟩ := hrel
                have hk := HK.out
                by_cases c5 : i < 52
                · cases gk with
                  | zero => exact absurd c5 (by omega)
                  | succ k2 =>
                    have s5 : decide (i < 52) = true := decide_eq_true c5
                    have m1 := HR0.out (i - 52) (by omega) (by omega)
                    have rw2 : IntKind.i64.wrap (i + 1) = i + 1 := by rw [IntKind.wrap_i64]; omega
                    go_wp2
                    go_roundg k2
                    case measure => omega
                    case rel => exact ⟨i + 1, by rw [show i + 1 - 52 = i - 52 + 1 by omega], by first | rfl | simp [goInt, rw2], ⟨by omega⟩, HB⟩
                · have s5 : decide (i < 52) = false := decide_eq_false c5
                  have hi : i - 52 = 0 := by omega
                  rw [hi]
                  go_wp2
                  go_ret
                  refine ⟨?_, HB.out⟩
                  have hf := hfin.out
                  refine congrArg (fun x => Ending.returned (.int .u64 x)) ?_
                  (try rw [IntKind.wrap_u64, IntKind.wrap_u64, IntKind.wrap_u64])
                  (try rw [IntKind.wrap_u64, IntKind.wrap_u64])
                  (try rw [IntKind.wrap_u64])
                  (try simp only [Bool.false_eq_true, if_false, if_true])
                  omega
set_option maxRecDepth 100000 in
theorem bonsairef01_Bits.calls (bv0 : Nat) (a0 : Int) (r : Int) (w : World) (bq0 : FB bv0 a0) (h : bonsairef01_Bits.f a0 = some r) :
    Calls Try.prog 27 #[.float .f64 bv0] w fun e_ w' => e_ = .returned (.int .u64 r) ∧ Below w.heap.size w w' := by
  obtain rfl := Option.some.inj h
  clear h
  rw [bq0.eq]
  rcases Fl.classify bv0 bq0.lt with hn | hz | hz | ⟨s, m, e, hm, hm2, he, hE, hz, hform⟩
  · exact bonsairef01_Bits.nan _ w hn
  · obtain ⟨s, hz⟩ := hz
    rw [hz]
    exact bonsairef01_Bits.zero s w
  · obtain ⟨s, hz⟩ := hz
    rw [hz]
    exact bonsairef01_Bits.inf s w
  · rw [hz]
    exact bonsairef01_Bits.fin s w hm hm2 he hE hform
def bonsairef01_Same.f (a0 : Int) (a1 : Int) : Option (Bool) := (bonsairef01_Bits.f a0).bind fun t169 => ((bonsairef01_Bits.f a1).bind fun t170 => (some (t169 == t170)))
set_option maxHeartbeats 8000000 in
set_option maxRecDepth 100000 in
theorem bonsairef01_Same.calls (bv0 : Nat) (a0 : Int) (bv1 : Nat) (a1 : Int) (r : Bool) (w : World) (bq0 : FB bv0 a0) (bq1 : FB bv1 a1) (h : bonsairef01_Same.f a0 a1 = some r) :
    Calls Try.prog 89 #[.float .f64 bv0, .float .f64 bv1] w fun e w' => e = .returned (.bool r) ∧ Below w.heap.size w w' := by
  have HB := Aside0.mk (Below.refl w.heap.size w)
  have H : ((bonsairef01_Bits.f a0).bind fun t169 => ((bonsairef01_Bits.f a1).bind fun t170 => (some (t169 == t170)))) = some r := h
  clear h
  replace H := Option.bind_eq_some_iff.mp H
  obtain ⟨t169, A30, H⟩ := H
  replace H : ((bonsairef01_Bits.f a1).bind fun t170 => (some (t169 == t170))) = some r := H
  have A3 := Aside0.mk A30
  clear A30
  replace H := Option.bind_eq_some_iff.mp H
  obtain ⟨t170, A40, H⟩ := H
  replace H : (some (t169 == t170)) = some r := H
  have A4 := Aside0.mk A40
  clear A40
  obtain rfl := Option.some.inj H
  go_enter Try.func89, Try.ntmps89
  go_wp2_with (first | ((with_reducible refine gate_callee (f := 27) rfl ?_); refine goesL_ (some 6) rfl rfl Try.func27 (by kernel_rfl) rfl #[.float .f64 bv0] rfl (by (try simp only [List.map_toArray, List.map_cons, List.map_nil]); first | done | rfl | (simp only [List.length_drop, List.length_take]; rfl)) ?_; (with_reducible refine (bonsairef01_Bits.calls _ a0 t169 _ ?side1 A3.out).mono ?_); (case side1 => exact (by first | assumption | exact FB_lit _ _ rfl | exact FB_int _ | simpa using (by assumption))); rintro e w5 ⟨rfl, hb⟩; refine ⟨_, rfl, ?_⟩; have n0_ := Aside0.mk (below_step (by repeat (first | (with_reducible first | exact HB.out | apply below_alloc | apply pw_below_drewN | apply below_drew1) | exact HB.out)) hb); clear HB; have HB := n0_; clear n0_; (try clear hb); (try clear hb2); (try clear hk); (try clear hi)) | ((with_reducible refine gate_callee (f := 27) rfl ?_); refine goesL_ (some 8) rfl rfl Try.func27 (by kernel_rfl) rfl #[.float .f64 bv1] rfl (by (try simp only [List.map_toArray, List.map_cons, List.map_nil]); first | done | rfl | (simp only [List.length_drop, List.length_take]; rfl)) ?_; (with_reducible refine (bonsairef01_Bits.calls _ a1 t170 _ ?side1 A4.out).mono ?_); (case side1 => exact (by first | assumption | exact FB_lit _ _ rfl | exact FB_int _ | simpa using (by assumption))); rintro e w6 ⟨rfl, hb⟩; refine ⟨_, rfl, ?_⟩; have n0_ := Aside0.mk (below_step (by repeat (first | (with_reducible first | exact HB.out | apply below_alloc | apply pw_below_drewN | apply below_drew1) | exact HB.out)) hb); clear HB; have HB := n0_; clear n0_; (try clear hb); (try clear hb2); (try clear hk); (try clear hi)))
  go_ret
  exact ⟨by first | rfl | (simp [errW_none, errW_some] <;> rfl) | (simp [*, errW_none, errW_some] <;> rfl), by repeat (first | (with_reducible first | exact HB.out | apply below_alloc | apply pw_below_drewN | apply below_drew1) | exact HB.out)⟩
def bonsairef12_Alike.f (a0_0 : Int) (a0_1 : Int) (a0_2 : ByteArray) (a0_3 : Int) (a1_0 : Int) (a1_1 : Int) (a1_2 : ByteArray) (a1_3 : Int) : Option (Bool) := if a0_0 = a1_0 then (if a0_1 = a1_1 then (if a0_2.toList = a1_2.toList then ((bonsairef01_Same.f a0_3 a1_3).bind fun t173 => (some t173)) else (some false)) else (some false)) else (some false)
set_option maxHeartbeats 8000000 in
set_option maxRecDepth 100000 in
theorem bonsairef12_Alike.calls (a0_0 : Int) (a0_1 : Int) (a0_2 : ByteArray) (bv0_3 : Nat) (a0_3 : Int) (a1_0 : Int) (a1_1 : Int) (a1_2 : ByteArray) (bv1_3 : Nat) (a1_3 : Int) (r : Bool) (w : World) (bq0_3 : FB bv0_3 a0_3) (bq1_3 : FB bv1_3 a1_3) (h : bonsairef12_Alike.f a0_0 a0_1 a0_2 a0_3 a1_0 a1_1 a1_2 a1_3 = some r) :
    Calls Try.prog 75 #[.agg #[.int .i64 a0_0, .int .i64 a0_1, .string a0_2, .float .f64 bv0_3], .agg #[.int .i64 a1_0, .int .i64 a1_1, .string a1_2, .float .f64 bv1_3]] w fun e w' => e = .returned (.bool r) ∧ Below w.heap.size w w' := by
  have hu96 := Try.underlying96
  have HB := Aside0.mk (Below.refl w.heap.size w)
  have H : (if a0_0 = a1_0 then (if a0_1 = a1_1 then (if a0_2.toList = a1_2.toList then ((bonsairef01_Same.f a0_3 a1_3).bind fun t173 => (some t173)) else (some false)) else (some false)) else (some false)) = some r := h
  clear h
  by_cases c3 : a0_0 = a1_0
  · rw [if_pos c3] at H
    have c3b0 : (a0_0 == a1_0) = true := beq_iff_eq.mpr c3
    have c3b1 : (a0_0 != a1_0) = false := bne_eq_false_iff_eq.mpr c3
    clear c3
    by_cases c4 : a0_1 = a1_1
    · rw [if_pos c4] at H
      have c4b0 : (a0_1 == a1_1) = true := beq_iff_eq.mpr c4
      have c4b1 : (a0_1 != a1_1) = false := bne_eq_false_iff_eq.mpr c4
      clear c4
      by_cases c5 : a0_2.toList = a1_2.toList
      · rw [if_pos c5] at H
        have c5b0 : (a0_2.toList == a1_2.toList) = true := beq_iff_eq.mpr c5
        have c5b1 : (a0_2.toList != a1_2.toList) = false := bne_eq_false_iff_eq.mpr c5
        clear c5
        replace H := Option.bind_eq_some_iff.mp H
        obtain ⟨t173, A60, H⟩ := H
        replace H : (some t173) = some r := H
        have A6 := Aside0.mk A60
        clear A60
        obtain rfl := Option.some.inj H
        go_enter Try.func75, Try.ntmps75
        go_wp2_with (first | ((with_reducible refine gate_dst (N := 2) rfl ?_); refine box_event ?hg (N := 2) ?hd (cs := #[.int .i64 a0_0, .int .i64 a0_1, .string a0_2, .float .f64 bv0_3]) (t := 96) ?hr ?_; (case hd => rfl); (case hg => rfl); (case hr => first | (go_simp; done) | (go_simp; rfl)); intro gb171 hg w7 hbox hb; have n0_ := Aside0.mk (below_step (by repeat (first | (with_reducible first | exact HB.out | apply below_alloc | apply pw_below_drewN | apply below_drew1) | exact HB.out)) hb); have n1_ := Aside0.mk (hbox); have n2_ := Aside0.mk ((by rw [hg]; exact (below_size (by repeat (first | (with_reducible first | exact HB.out | apply below_alloc | apply pw_below_drewN | apply below_drew1) | exact HB.out))) : w.heap.size ≤ gb171)); have n3_ := Aside0.mk ((by rw [hg]; exact (below_size (by repeat (first | (with_reducible first | exact HB.out | apply below_alloc | apply pw_below_drewN | apply below_drew1) | exact HB.out))) : w.heap.size ≤ gb171)); clear HB; have HB := n0_; have BK171 := n1_; have GW171 := n2_; have GE171 := n3_; clear n0_ n1_ n2_ n3_; clear hb hbox hg) | ((with_reducible refine gate_dst (N := 3) rfl ?_); refine box_event ?hg (N := 3) ?hd (cs := #[.int .i64 a1_0, .int .i64 a1_1, .string a1_2, .float .f64 bv1_3]) (t := 96) ?hr ?_; (case hd => rfl); (case hg => rfl); (case hr => first | (go_simp; done) | (go_simp; rfl)); intro gb172 hg w8 hbox hb; have n0_ := Aside0.mk (blk_below (g := gb171) (o := .cells #[.int .i64 a0_0, .int .i64 a0_1, .string a0_2, .float .f64 bv0_3] 96 (0, 0)) (by (with_reducible repeat (first | refine blk_drewN ?_ _ | refine blk_drew ?_ | refine blk_alloc ?_ _)); exact BK171.out) hb); have n1_ := Aside0.mk (below_step (by repeat (first | (with_reducible first | exact HB.out | apply below_alloc | apply pw_below_drewN | apply below_drew1 | refine below_set ?_ GE171.out) | exact HB.out)) hb); have n2_ := Aside0.mk (hbox); have n3_ := Aside0.mk ((by rw [hg]; exact (below_size (by repeat (first | (with_reducible first | exact HB.out | apply below_alloc | apply pw_below_drewN | apply below_drew1 | refine below_set ?_ GE171.out) | exact HB.out))) : w.heap.size ≤ gb172)); have n4_ := Aside0.mk ((by rw [hg]; exact (below_size (by repeat (first | (with_reducible first | exact HB.out | apply below_alloc | apply pw_below_drewN | apply below_drew1 | refine below_set ?_ GE171.out) | exact HB.out))) : w.heap.size ≤ gb172)); have n5_ := Aside0.mk ((by rw [hg]; exact Nat.ne_of_lt (blk_lt (g := gb171) (o := .cells #[.int .i64 a0_0, .int .i64 a0_1, .string a0_2, .float .f64 bv0_3] 96 (0, 0)) (by (with_reducible repeat (first | refine blk_drewN ?_ _ | refine blk_drew ?_ | refine blk_alloc ?_ _)); exact BK171.out)) : gb171 ≠ gb172)); have n6_ := Aside0.mk ((by rw [hg]; exact Nat.ne_of_gt (blk_lt (g := gb171) (o := .cells #[.int .i64 a0_0, .int .i64 a0_1, .string a0_2, .float .f64 bv0_3] 96 (0, 0)) (by (with_reducible repeat (first | refine blk_drewN ?_ _ | refine blk_drew ?_ | refine blk_alloc ?_ _)); exact BK171.out)) : gb172 ≠ gb171)); clear BK171; clear HB; have BK171 := n0_; have HB := n1_; have BK172 := n2_; have GW172 := n3_; have GE172 := n4_; have NB171_172 := n5_; have NB172_171 := n6_; clear n0_ n1_ n2_ n3_ n4_ n5_ n6_; clear hb hbox hg; have hnb9 := NB171_172.out; have hnc9 := NB172_171.out; have hcz10_0 : w8.cell? ⟨gb171, 0, none⟩ = some (.int .i64 a0_0) := (blk_cell BK171.out 0).trans rfl; have hcz10_1 : w8.cell? ⟨gb171, 1, none⟩ = some (.int .i64 a0_1) := (blk_cell BK171.out 1).trans rfl; have hcz10_2 : w8.cell? ⟨gb171, 2, none⟩ = some (.string a0_2) := (blk_cell BK171.out 2).trans rfl; have hcz10_3 : w8.cell? ⟨gb171, 3, none⟩ = some (.float .f64 bv0_3) := (blk_cell BK171.out 3).trans rfl; have hfz10_0 := blk_frozen BK171.out 0; have hfz10_1 := blk_frozen BK171.out 1; have hfz10_2 := blk_frozen BK171.out 2; have hfz10_3 := blk_frozen BK171.out 3; have hcz11_0 : w8.cell? ⟨gb172, 0, none⟩ = some (.int .i64 a1_0) := (blk_cell BK172.out 0).trans rfl; have hcz11_1 : w8.cell? ⟨gb172, 1, none⟩ = some (.int .i64 a1_1) := (blk_cell BK172.out 1).trans rfl; have hcz11_2 : w8.cell? ⟨gb172, 2, none⟩ = some (.string a1_2) := (blk_cell BK172.out 2).trans rfl; have hcz11_3 : w8.cell? ⟨gb172, 3, none⟩ = some (.float .f64 bv1_3) := (blk_cell BK172.out 3).trans rfl; have hfz11_0 := blk_frozen BK172.out 0; have hfz11_1 := blk_frozen BK172.out 1; have hfz11_2 := blk_frozen BK172.out 2; have hfz11_3 := blk_frozen BK172.out 3) | (go_at_call 89; (with_reducible refine (bonsairef01_Same.calls _ a0_3 _ a1_3 t173 _ ?side1 ?side2 A6.out).mono ?_); (case side1 => exact (by first | assumption | exact FB_lit _ _ rfl | exact FB_int _ | simpa using (by assumption))); (case side2 => exact (by first | assumption | exact FB_lit _ _ rfl | exact FB_int _ | simpa using (by assumption))); rintro e w12 ⟨rfl, hb⟩; have n0_ := Aside0.mk (blk_below (g := gb171) (o := .cells #[.int .i64 a0_0, .int .i64 a0_1, .string a0_2, .float .f64 bv0_3] 96 (0, 0)) (by (with_reducible repeat (first | refine blk_drewN ?_ _ | refine blk_drew ?_ | refine blk_alloc ?_ _)); exact BK171.out) hb); have n1_ := Aside0.mk (blk_below (g := gb172) (o := .cells #[.int .i64 a1_0, .int .i64 a1_1, .string a1_2, .float .f64 bv1_3] 96 (0, 0)) (by (with_reducible repeat (first | refine blk_drewN ?_ _ | refine blk_drew ?_ | refine blk_alloc ?_ _)); exact BK172.out) hb); have n2_ := Aside0.mk (below_step (by repeat (first | (with_reducible first | exact HB.out | apply below_alloc | apply pw_below_drewN | apply below_drew1 | refine below_set ?_ GE171.out | refine below_set ?_ GE172.out) | exact HB.out)) hb); clear BK171; clear BK172; clear HB; have BK171 := n0_; have BK172 := n1_; have HB := n2_; clear n0_ n1_ n2_; (try clear hb); (try clear hb2); (try clear hk); (try clear hi)))
        go_ret
        exact ⟨by first | rfl | (simp [errW_none, errW_some] <;> rfl) | (simp [*, errW_none, errW_some] <;> rfl), by repeat (first | (with_reducible first | exact HB.out | apply below_alloc | apply pw_below_drewN | apply below_drew1 | refine below_set ?_ GE171.out | refine below_set ?_ GE172.out) | exact HB.out)⟩
      · rw [if_neg c5] at H
        have c5b0 : (a0_2.toList == a1_2.toList) = false := beq_eq_false_iff_ne.mpr c5
        have c5b1 : (a0_2.toList != a1_2.toList) = true := bne_iff_ne.mpr c5
        obtain rfl := Option.some.inj H
        go_enter Try.func75, Try.ntmps75
        go_wp2_with (first | ((with_reducible refine gate_dst (N := 2) rfl ?_); refine box_event ?hg (N := 2) ?hd (cs := #[.int .i64 a0_0, .int .i64 a0_1, .string a0_2, .float .f64 bv0_3]) (t := 96) ?hr ?_; (case hd => rfl); (case hg => rfl); (case hr => first | (go_simp; done) | (go_simp; rfl)); intro gb171 hg w13 hbox hb; have n0_ := Aside0.mk (below_step (by repeat (first | (with_reducible first | exact HB.out | apply below_alloc | apply pw_below_drewN | apply below_drew1) | exact HB.out)) hb); have n1_ := Aside0.mk (hbox); have n2_ := Aside0.mk ((by rw [hg]; exact (below_size (by repeat (first | (with_reducible first | exact HB.out | apply below_alloc | apply pw_below_drewN | apply below_drew1) | exact HB.out))) : w.heap.size ≤ gb171)); have n3_ := Aside0.mk ((by rw [hg]; exact (below_size (by repeat (first | (with_reducible first | exact HB.out | apply below_alloc | apply pw_below_drewN | apply below_drew1) | exact HB.out))) : w.heap.size ≤ gb171)); clear HB; have HB := n0_; have BK171 := n1_; have GW171 := n2_; have GE171 := n3_; clear n0_ n1_ n2_ n3_; clear hb hbox hg) | ((with_reducible refine gate_dst (N := 3) rfl ?_); refine box_event ?hg (N := 3) ?hd (cs := #[.int .i64 a1_0, .int .i64 a1_1, .string a1_2, .float .f64 bv1_3]) (t := 96) ?hr ?_; (case hd => rfl); (case hg => rfl); (case hr => first | (go_simp; done) | (go_simp; rfl)); intro gb172 hg w14 hbox hb; have n0_ := Aside0.mk (blk_below (g := gb171) (o := .cells #[.int .i64 a0_0, .int .i64 a0_1, .string a0_2, .float .f64 bv0_3] 96 (0, 0)) (by (with_reducible repeat (first | refine blk_drewN ?_ _ | refine blk_drew ?_ | refine blk_alloc ?_ _)); exact BK171.out) hb); have n1_ := Aside0.mk (below_step (by repeat (first | (with_reducible first | exact HB.out | apply below_alloc | apply pw_below_drewN | apply below_drew1 | refine below_set ?_ GE171.out) | exact HB.out)) hb); have n2_ := Aside0.mk (hbox); have n3_ := Aside0.mk ((by rw [hg]; exact (below_size (by repeat (first | (with_reducible first | exact HB.out | apply below_alloc | apply pw_below_drewN | apply below_drew1 | refine below_set ?_ GE171.out) | exact HB.out))) : w.heap.size ≤ gb172)); have n4_ := Aside0.mk ((by rw [hg]; exact (below_size (by repeat (first | (with_reducible first | exact HB.out | apply below_alloc | apply pw_below_drewN | apply below_drew1 | refine below_set ?_ GE171.out) | exact HB.out))) : w.heap.size ≤ gb172)); have n5_ := Aside0.mk ((by rw [hg]; exact Nat.ne_of_lt (blk_lt (g := gb171) (o := .cells #[.int .i64 a0_0, .int .i64 a0_1, .string a0_2, .float .f64 bv0_3] 96 (0, 0)) (by (with_reducible repeat (first | refine blk_drewN ?_ _ | refine blk_drew ?_ | refine blk_alloc ?_ _)); exact BK171.out)) : gb171 ≠ gb172)); have n6_ := Aside0.mk ((by rw [hg]; exact Nat.ne_of_gt (blk_lt (g := gb171) (o := .cells #[.int .i64 a0_0, .int .i64 a0_1, .string a0_2, .float .f64 bv0_3] 96 (0, 0)) (by (with_reducible repeat (first | refine blk_drewN ?_ _ | refine blk_drew ?_ | refine blk_alloc ?_ _)); exact BK171.out)) : gb172 ≠ gb171)); clear BK171; clear HB; have BK171 := n0_; have HB := n1_; have BK172 := n2_; have GW172 := n3_; have GE172 := n4_; have NB171_172 := n5_; have NB172_171 := n6_; clear n0_ n1_ n2_ n3_ n4_ n5_ n6_; clear hb hbox hg; have hnb15 := NB171_172.out; have hnc15 := NB172_171.out; have hcz16_0 : w14.cell? ⟨gb171, 0, none⟩ = some (.int .i64 a0_0) := (blk_cell BK171.out 0).trans rfl; have hcz16_1 : w14.cell? ⟨gb171, 1, none⟩ = some (.int .i64 a0_1) := (blk_cell BK171.out 1).trans rfl; have hcz16_2 : w14.cell? ⟨gb171, 2, none⟩ = some (.string a0_2) := (blk_cell BK171.out 2).trans rfl; have hcz16_3 : w14.cell? ⟨gb171, 3, none⟩ = some (.float .f64 bv0_3) := (blk_cell BK171.out 3).trans rfl; have hfz16_0 := blk_frozen BK171.out 0; have hfz16_1 := blk_frozen BK171.out 1; have hfz16_2 := blk_frozen BK171.out 2; have hfz16_3 := blk_frozen BK171.out 3; have hcz17_0 : w14.cell? ⟨gb172, 0, none⟩ = some (.int .i64 a1_0) := (blk_cell BK172.out 0).trans rfl; have hcz17_1 : w14.cell? ⟨gb172, 1, none⟩ = some (.int .i64 a1_1) := (blk_cell BK172.out 1).trans rfl; have hcz17_2 : w14.cell? ⟨gb172, 2, none⟩ = some (.string a1_2) := (blk_cell BK172.out 2).trans rfl; have hcz17_3 : w14.cell? ⟨gb172, 3, none⟩ = some (.float .f64 bv1_3) := (blk_cell BK172.out 3).trans rfl; have hfz17_0 := blk_frozen BK172.out 0; have hfz17_1 := blk_frozen BK172.out 1; have hfz17_2 := blk_frozen BK172.out 2; have hfz17_3 := blk_frozen BK172.out 3))
        go_ret
        exact ⟨by first | rfl | (simp [errW_none, errW_some] <;> rfl) | (simp [*, errW_none, errW_some] <;> rfl), by repeat (first | (with_reducible first | exact HB.out | apply below_alloc | apply pw_below_drewN | apply below_drew1 | refine below_set ?_ GE171.out | refine below_set ?_ GE172.out) | exact HB.out)⟩
    · rw [if_neg c4] at H
      have c4b0 : (a0_1 == a1_1) = false := beq_eq_false_iff_ne.mpr c4
      have c4b1 : (a0_1 != a1_1) = true := bne_iff_ne.mpr c4
      obtain rfl := Option.some.inj H
      go_enter Try.func75, Try.ntmps75
      go_wp2_with (first | ((with_reducible refine gate_dst (N := 2) rfl ?_); refine box_event ?hg (N := 2) ?hd (cs := #[.int .i64 a0_0, .int .i64 a0_1, .string a0_2, .float .f64 bv0_3]) (t := 96) ?hr ?_; (case hd => rfl); (case hg => rfl); (case hr => first | (go_simp; done) | (go_simp; rfl)); intro gb171 hg w18 hbox hb; have n0_ := Aside0.mk (below_step (by repeat (first | (with_reducible first | exact HB.out | apply below_alloc | apply pw_below_drewN | apply below_drew1) | exact HB.out)) hb); have n1_ := Aside0.mk (hbox); have n2_ := Aside0.mk ((by rw [hg]; exact (below_size (by repeat (first | (with_reducible first | exact HB.out | apply below_alloc | apply pw_below_drewN | apply below_drew1) | exact HB.out))) : w.heap.size ≤ gb171)); have n3_ := Aside0.mk ((by rw [hg]; exact (below_size (by repeat (first | (with_reducible first | exact HB.out | apply below_alloc | apply pw_below_drewN | apply below_drew1) | exact HB.out))) : w.heap.size ≤ gb171)); clear HB; have HB := n0_; have BK171 := n1_; have GW171 := n2_; have GE171 := n3_; clear n0_ n1_ n2_ n3_; clear hb hbox hg) | ((with_reducible refine gate_dst (N := 3) rfl ?_); refine box_event ?hg (N := 3) ?hd (cs := #[.int .i64 a1_0, .int .i64 a1_1, .string a1_2, .float .f64 bv1_3]) (t := 96) ?hr ?_; (case hd => rfl); (case hg => rfl); (case hr => first | (go_simp; done) | (go_simp; rfl)); intro gb172 hg w19 hbox hb; have n0_ := Aside0.mk (blk_below (g := gb171) (o := .cells #[.int .i64 a0_0, .int .i64 a0_1, .string a0_2, .float .f64 bv0_3] 96 (0, 0)) (by (with_reducible repeat (first | refine blk_drewN ?_ _ | refine blk_drew ?_ | refine blk_alloc ?_ _)); exact BK171.out) hb); have n1_ := Aside0.mk (below_step (by repeat (first | (with_reducible first | exact HB.out | apply below_alloc | apply pw_below_drewN | apply below_drew1 | refine below_set ?_ GE171.out) | exact HB.out)) hb); have n2_ := Aside0.mk (hbox); have n3_ := Aside0.mk ((by rw [hg]; exact (below_size (by repeat (first | (with_reducible first | exact HB.out | apply below_alloc | apply pw_below_drewN | apply below_drew1 | refine below_set ?_ GE171.out) | exact HB.out))) : w.heap.size ≤ gb172)); have n4_ := Aside0.mk ((by rw [hg]; exact (below_size (by repeat (first | (with_reducible first | exact HB.out | apply below_alloc | apply pw_below_drewN | apply below_drew1 | refine below_set ?_ GE171.out) | exact HB.out))) : w.heap.size ≤ gb172)); have n5_ := Aside0.mk ((by rw [hg]; exact Nat.ne_of_lt (blk_lt (g := gb171) (o := .cells #[.int .i64 a0_0, .int .i64 a0_1, .string a0_2, .float .f64 bv0_3] 96 (0, 0)) (by (with_reducible repeat (first | refine blk_drewN ?_ _ | refine blk_drew ?_ | refine blk_alloc ?_ _)); exact BK171.out)) : gb171 ≠ gb172)); have n6_ := Aside0.mk ((by rw [hg]; exact Nat.ne_of_gt (blk_lt (g := gb171) (o := .cells #[.int .i64 a0_0, .int .i64 a0_1, .string a0_2, .float .f64 bv0_3] 96 (0, 0)) (by (with_reducible repeat (first | refine blk_drewN ?_ _ | refine blk_drew ?_ | refine blk_alloc ?_ _)); exact BK171.out)) : gb172 ≠ gb171)); clear BK171; clear HB; have BK171 := n0_; have HB := n1_; have BK172 := n2_; have GW172 := n3_; have GE172 := n4_; have NB171_172 := n5_; have NB172_171 := n6_; clear n0_ n1_ n2_ n3_ n4_ n5_ n6_; clear hb hbox hg; have hnb20 := NB171_172.out; have hnc20 := NB172_171.out; have hcz21_0 : w19.cell? ⟨gb171, 0, none⟩ = some (.int .i64 a0_0) := (blk_cell BK171.out 0).trans rfl; have hcz21_1 : w19.cell? ⟨gb171, 1, none⟩ = some (.int .i64 a0_1) := (blk_cell BK171.out 1).trans rfl; have hcz21_2 : w19.cell? ⟨gb171, 2, none⟩ = some (.string a0_2) := (blk_cell BK171.out 2).trans rfl; have hcz21_3 : w19.cell? ⟨gb171, 3, none⟩ = some (.float .f64 bv0_3) := (blk_cell BK171.out 3).trans rfl; have hfz21_0 := blk_frozen BK171.out 0; have hfz21_1 := blk_frozen BK171.out 1; have hfz21_2 := blk_frozen BK171.out 2; have hfz21_3 := blk_frozen BK171.out 3; have hcz22_0 : w19.cell? ⟨gb172, 0, none⟩ = some (.int .i64 a1_0) := (blk_cell BK172.out 0).trans rfl; have hcz22_1 : w19.cell? ⟨gb172, 1, none⟩ = some (.int .i64 a1_1) := (blk_cell BK172.out 1).trans rfl; have hcz22_2 : w19.cell? ⟨gb172, 2, none⟩ = some (.string a1_2) := (blk_cell BK172.out 2).trans rfl; have hcz22_3 : w19.cell? ⟨gb172, 3, none⟩ = some (.float .f64 bv1_3) := (blk_cell BK172.out 3).trans rfl; have hfz22_0 := blk_frozen BK172.out 0; have hfz22_1 := blk_frozen BK172.out 1; have hfz22_2 := blk_frozen BK172.out 2; have hfz22_3 := blk_frozen BK172.out 3))
      go_ret
      exact ⟨by first | rfl | (simp [errW_none, errW_some] <;> rfl) | (simp [*, errW_none, errW_some] <;> rfl), by repeat (first | (with_reducible first | exact HB.out | apply below_alloc | apply pw_below_drewN | apply below_drew1 | refine below_set ?_ GE171.out | refine below_set ?_ GE172.out) | exact HB.out)⟩
  · rw [if_neg c3] at H
    have c3b0 : (a0_0 == a1_0) = false := beq_eq_false_iff_ne.mpr c3
    have c3b1 : (a0_0 != a1_0) = true := bne_iff_ne.mpr c3
    obtain rfl := Option.some.inj H
    go_enter Try.func75, Try.ntmps75
    go_wp2_with (first | ((with_reducible refine gate_dst (N := 2) rfl ?_); refine box_event ?hg (N := 2) ?hd (cs := #[.int .i64 a0_0, .int .i64 a0_1, .string a0_2, .float .f64 bv0_3]) (t := 96) ?hr ?_; (case hd => rfl); (case hg => rfl); (case hr => first | (go_simp; done) | (go_simp; rfl)); intro gb171 hg w23 hbox hb; have n0_ := Aside0.mk (below_step (by repeat (first | (with_reducible first | exact HB.out | apply below_alloc | apply pw_below_drewN | apply below_drew1) | exact HB.out)) hb); have n1_ := Aside0.mk (hbox); have n2_ := Aside0.mk ((by rw [hg]; exact (below_size (by repeat (first | (with_reducible first | exact HB.out | apply below_alloc | apply pw_below_drewN | apply below_drew1) | exact HB.out))) : w.heap.size ≤ gb171)); have n3_ := Aside0.mk ((by rw [hg]; exact (below_size (by repeat (first | (with_reducible first | exact HB.out | apply below_alloc | apply pw_below_drewN | apply below_drew1) | exact HB.out))) : w.heap.size ≤ gb171)); clear HB; have HB := n0_; have BK171 := n1_; have GW171 := n2_; have GE171 := n3_; clear n0_ n1_ n2_ n3_; clear hb hbox hg) | ((with_reducible refine gate_dst (N := 3) rfl ?_); refine box_event ?hg (N := 3) ?hd (cs := #[.int .i64 a1_0, .int .i64 a1_1, .string a1_2, .float .f64 bv1_3]) (t := 96) ?hr ?_; (case hd => rfl); (case hg => rfl); (case hr => first | (go_simp; done) | (go_simp; rfl)); intro gb172 hg w24 hbox hb; have n0_ := Aside0.mk (blk_below (g := gb171) (o := .cells #[.int .i64 a0_0, .int .i64 a0_1, .string a0_2, .float .f64 bv0_3] 96 (0, 0)) (by (with_reducible repeat (first | refine blk_drewN ?_ _ | refine blk_drew ?_ | refine blk_alloc ?_ _)); exact BK171.out) hb); have n1_ := Aside0.mk (below_step (by repeat (first | (with_reducible first | exact HB.out | apply below_alloc | apply pw_below_drewN | apply below_drew1 | refine below_set ?_ GE171.out) | exact HB.out)) hb); have n2_ := Aside0.mk (hbox); have n3_ := Aside0.mk ((by rw [hg]; exact (below_size (by repeat (first | (with_reducible first | exact HB.out | apply below_alloc | apply pw_below_drewN | apply below_drew1 | refine below_set ?_ GE171.out) | exact HB.out))) : w.heap.size ≤ gb172)); have n4_ := Aside0.mk ((by rw [hg]; exact (below_size (by repeat (first | (with_reducible first | exact HB.out | apply below_alloc | apply pw_below_drewN | apply below_drew1 | refine below_set ?_ GE171.out) | exact HB.out))) : w.heap.size ≤ gb172)); have n5_ := Aside0.mk ((by rw [hg]; exact Nat.ne_of_lt (blk_lt (g := gb171) (o := .cells #[.int .i64 a0_0, .int .i64 a0_1, .string a0_2, .float .f64 bv0_3] 96 (0, 0)) (by (with_reducible repeat (first | refine blk_drewN ?_ _ | refine blk_drew ?_ | refine blk_alloc ?_ _)); exact BK171.out)) : gb171 ≠ gb172)); have n6_ := Aside0.mk ((by rw [hg]; exact Nat.ne_of_gt (blk_lt (g := gb171) (o := .cells #[.int .i64 a0_0, .int .i64 a0_1, .string a0_2, .float .f64 bv0_3] 96 (0, 0)) (by (with_reducible repeat (first | refine blk_drewN ?_ _ | refine blk_drew ?_ | refine blk_alloc ?_ _)); exact BK171.out)) : gb172 ≠ gb171)); clear BK171; clear HB; have BK171 := n0_; have HB := n1_; have BK172 := n2_; have GW172 := n3_; have GE172 := n4_; have NB171_172 := n5_; have NB172_171 := n6_; clear n0_ n1_ n2_ n3_ n4_ n5_ n6_; clear hb hbox hg; have hnb25 := NB171_172.out; have hnc25 := NB172_171.out; have hcz26_0 : w24.cell? ⟨gb171, 0, none⟩ = some (.int .i64 a0_0) := (blk_cell BK171.out 0).trans rfl; have hcz26_1 : w24.cell? ⟨gb171, 1, none⟩ = some (.int .i64 a0_1) := (blk_cell BK171.out 1).trans rfl; have hcz26_2 : w24.cell? ⟨gb171, 2, none⟩ = some (.string a0_2) := (blk_cell BK171.out 2).trans rfl; have hcz26_3 : w24.cell? ⟨gb171, 3, none⟩ = some (.float .f64 bv0_3) := (blk_cell BK171.out 3).trans rfl; have hfz26_0 := blk_frozen BK171.out 0; have hfz26_1 := blk_frozen BK171.out 1; have hfz26_2 := blk_frozen BK171.out 2; have hfz26_3 := blk_frozen BK171.out 3; have hcz27_0 : w24.cell? ⟨gb172, 0, none⟩ = some (.int .i64 a1_0) := (blk_cell BK172.out 0).trans rfl; have hcz27_1 : w24.cell? ⟨gb172, 1, none⟩ = some (.int .i64 a1_1) := (blk_cell BK172.out 1).trans rfl; have hcz27_2 : w24.cell? ⟨gb172, 2, none⟩ = some (.string a1_2) := (blk_cell BK172.out 2).trans rfl; have hcz27_3 : w24.cell? ⟨gb172, 3, none⟩ = some (.float .f64 bv1_3) := (blk_cell BK172.out 3).trans rfl; have hfz27_0 := blk_frozen BK172.out 0; have hfz27_1 := blk_frozen BK172.out 1; have hfz27_2 := blk_frozen BK172.out 2; have hfz27_3 := blk_frozen BK172.out 3))
    go_ret
    exact ⟨by first | rfl | (simp [errW_none, errW_some] <;> rfl) | (simp [*, errW_none, errW_some] <;> rfl), by repeat (first | (with_reducible first | exact HB.out | apply below_alloc | apply pw_below_drewN | apply below_drew1 | refine below_set ?_ GE171.out | refine below_set ?_ GE172.out) | exact HB.out)⟩
def bonsairef13_Alike.f (a0_0 : Int) (a0_1 : Int) (a0_2 : Int) (a0_3 : Int) (a0_4 : ByteArray) (a0_5 : Int) (a1_0 : Int) (a1_1 : Int) (a1_2 : Int) (a1_3 : Int) (a1_4 : ByteArray) (a1_5 : Int) : Option (Bool) := if (a0_0 == a1_0 && (a0_1 == a1_1)) = true then ((bonsairef13_Row.f a0_0 a0_1 a0_2 a0_3 a0_4 a0_5).bind fun bt176 => ((bonsairef13_Row.f a1_0 a1_1 a1_2 a1_3 a1_4 a1_5).bind fun bt181 => ((bonsairef12_Alike.f bt176.1 bt176.2.1 bt176.2.2.1 bt176.2.2.2 bt181.1 bt181.2.1 bt181.2.2.1 bt181.2.2.2).bind fun t186 => (some t186)))) else (some false)
def bonsairef13_Alike.T1 : Bool × List (List Nat × List Nat) := (true, [([], []), ([0], [0]), ([], []), ([2], [2]), ([1, 3], [1, 3]), ([4], [4]), ([5], [5]), ([6, 5, 5], [5, 6]), ([5], [5]), ([8, 7, 5], [5, 8]), ([7, 9, 9, 5], [5, 7, 9]), ([5, 10], [5, 10]), ([11, 10, 0, 1, 2, 3, 4, 5, 6, 7, 8, 9, 10, 11], [11])])
def bonsairef13_Alike.B1 : List Nat := [0, 1, 0, 4, 15, 31, 63, 127, 63, 511, 1023, 2047, 4095]
theorem bonsairef13_Alike.tab1 : rtab .any (opsOf Try.f44 1) = bonsairef13_Alike.T1 := by kernel_rfl
theorem bonsairef13_Alike.bits1 : waitsOk bonsairef13_Alike.T1.2 bonsairef13_Alike.B1 = true := by kernel_rfl
set_option maxHeartbeats 8000000 in
set_option maxRecDepth 100000 in
theorem bonsairef13_Alike.calls (a0_0 : Int) (a0_1 : Int) (a0_2 : Int) (a0_3 : Int) (a0_4 : ByteArray) (bv0_5 : Nat) (a0_5 : Int) (a1_0 : Int) (a1_1 : Int) (a1_2 : Int) (a1_3 : Int) (a1_4 : ByteArray) (bv1_5 : Nat) (a1_5 : Int) (r : Bool) (w : World) (bq0_5 : FB bv0_5 a0_5) (bq1_5 : FB bv1_5 a1_5) (h : bonsairef13_Alike.f a0_0 a0_1 a0_2 a0_3 a0_4 a0_5 a1_0 a1_1 a1_2 a1_3 a1_4 a1_5 = some r) :
    Calls Try.prog 44 #[.agg #[.int .i64 a0_0, .int .i64 a0_1, .int .i64 a0_2, .int .i64 a0_3, .string a0_4, .float .f64 bv0_5], .agg #[.int .i64 a1_0, .int .i64 a1_1, .int .i64 a1_2, .int .i64 a1_3, .string a1_4, .float .f64 bv1_5]] w fun e w' => e = .returned (.bool r) ∧ Below w.heap.size w w' := by
  have hu30 := Try.underlying30
  have hu27 := Try.underlying27
  have HB := Aside0.mk (Below.refl w.heap.size w)
  have H : (if (a0_0 == a1_0 && (a0_1 == a1_1)) = true then ((bonsairef13_Row.f a0_0 a0_1 a0_2 a0_3 a0_4 a0_5).bind fun bt176 => ((bonsairef13_Row.f a1_0 a1_1 a1_2 a1_3 a1_4 a1_5).bind fun bt181 => ((bonsairef12_Alike.f bt176.1 bt176.2.1 bt176.2.2.1 bt176.2.2.2 bt181.1 bt181.2.1 bt181.2.2.1 bt181.2.2.2).bind fun t186 => (some t186)))) else (some false)) = some r := h
  clear h
  by_cases c3 : (a0_0 == a1_0 && (a0_1 == a1_1)) = true
  · rw [if_pos c3] at H
    have c3b0 : (a0_0 == a1_0 && (a0_1 == a1_1)) = true := c3
    (try (have c3b1 : decide (a0_0 = a1_0 && (a0_1 == a1_1)) = true := by simpa using c3))
    (try (have c3b2 : (a0_0 == a1_0 && (a0_1 == a1_1)) = true := by simpa using c3))
    clear c3
    replace H := Option.bind_eq_some_iff.mp H
    obtain ⟨⟨t176, t177, t178, t179⟩, A40, H⟩ := H
    replace H : ((bonsairef13_Row.f a1_0 a1_1 a1_2 a1_3 a1_4 a1_5).bind fun bt181 => ((bonsairef12_Alike.f t176 t177 t178 t179 bt181.1 bt181.2.1 bt181.2.2.1 bt181.2.2.2).bind fun t186 => (some t186))) = some r := H
    have A4 := Aside0.mk A40
    clear A40
    replace H := Option.bind_eq_some_iff.mp H
    obtain ⟨⟨t181, t182, t183, t184⟩, A50, H⟩ := H
    replace H : ((bonsairef12_Alike.f t176 t177 t178 t179 t181 t182 t183 t184).bind fun t186 => (some t186)) = some r := H
    have A5 := Aside0.mk A50
    clear A50
    replace H := Option.bind_eq_some_iff.mp H
    obtain ⟨t186, A60, H⟩ := H
    replace H : (some t186) = some r := H
    have A6 := Aside0.mk A60
    clear A60
    obtain rfl := Option.some.inj H
    go_enter Try.func44, Try.ntmps44
    try go_wp2_with (first | ((with_reducible refine gate_dst (N := 2) rfl ?_); refine box_event ?hg (N := 2) ?hd (cs := #[.int .i64 a0_0, .int .i64 a0_1, .int .i64 a0_2, .int .i64 a0_3, .string a0_4, .float .f64 bv0_5]) (t := 30) ?hr ?_; (case hd => rfl); (case hg => rfl); (case hr => first | (go_simp; done) | (go_simp; rfl)); intro gb174 hg w7 hbox hb; have n0_ := Aside0.mk (below_step (by repeat (first | (with_reducible first | exact HB.out | apply below_alloc | apply pw_below_drewN | apply below_drew1) | exact HB.out)) hb); have n1_ := Aside0.mk (hbox); have n2_ := Aside0.mk ((by rw [hg]; exact (below_size (by repeat (first | (with_reducible first | exact HB.out | apply below_alloc | apply pw_below_drewN | apply below_drew1) | exact HB.out))) : w.heap.size ≤ gb174)); have n3_ := Aside0.mk ((by rw [hg]; exact (below_size (by repeat (first | (with_reducible first | exact HB.out | apply below_alloc | apply pw_below_drewN | apply below_drew1) | exact HB.out))) : w.heap.size ≤ gb174)); clear HB; have HB := n0_; have BK174 := n1_; have GW174 := n2_; have GE174 := n3_; clear n0_ n1_ n2_ n3_; clear hb hbox hg) | ((with_reducible refine gate_dst (N := 3) rfl ?_); refine box_event ?hg (N := 3) ?hd (cs := #[.int .i64 a1_0, .int .i64 a1_1, .int .i64 a1_2, .int .i64 a1_3, .string a1_4, .float .f64 bv1_5]) (t := 30) ?hr ?_; (case hd => rfl); (case hg => rfl); (case hr => first | (go_simp; done) | (go_simp; rfl)); intro gb175 hg w8 hbox hb; have n0_ := Aside0.mk (blk_below (g := gb174) (o := .cells #[.int .i64 a0_0, .int .i64 a0_1, .int .i64 a0_2, .int .i64 a0_3, .string a0_4, .float .f64 bv0_5] 30 (0, 0)) (by (with_reducible repeat (first | refine blk_drewN ?_ _ | refine blk_drew ?_ | refine blk_alloc ?_ _)); exact BK174.out) hb); have n1_ := Aside0.mk (below_step (by repeat (first | (with_reducible first | exact HB.out | apply below_alloc | apply pw_below_drewN | apply below_drew1 | refine below_set ?_ GE174.out) | exact HB.out)) hb); have n2_ := Aside0.mk (hbox); have n3_ := Aside0.mk ((by rw [hg]; exact (below_size (by repeat (first | (with_reducible first | exact HB.out | apply below_alloc | apply pw_below_drewN | apply below_drew1 | refine below_set ?_ GE174.out) | exact HB.out))) : w.heap.size ≤ gb175)); have n4_ := Aside0.mk ((by rw [hg]; exact (below_size (by repeat (first | (with_reducible first | exact HB.out | apply below_alloc | apply pw_below_drewN | apply below_drew1 | refine below_set ?_ GE174.out) | exact HB.out))) : w.heap.size ≤ gb175)); have n5_ := Aside0.mk ((by rw [hg]; exact Nat.ne_of_lt (blk_lt (g := gb174) (o := .cells #[.int .i64 a0_0, .int .i64 a0_1, .int .i64 a0_2, .int .i64 a0_3, .string a0_4, .float .f64 bv0_5] 30 (0, 0)) (by (with_reducible repeat (first | refine blk_drewN ?_ _ | refine blk_drew ?_ | refine blk_alloc ?_ _)); exact BK174.out)) : gb174 ≠ gb175)); have n6_ := Aside0.mk ((by rw [hg]; exact Nat.ne_of_gt (blk_lt (g := gb174) (o := .cells #[.int .i64 a0_0, .int .i64 a0_1, .int .i64 a0_2, .int .i64 a0_3, .string a0_4, .float .f64 bv0_5] 30 (0, 0)) (by (with_reducible repeat (first | refine blk_drewN ?_ _ | refine blk_drew ?_ | refine blk_alloc ?_ _)); exact BK174.out)) : gb175 ≠ gb174)); clear BK174; clear HB; have BK174 := n0_; have HB := n1_; have BK175 := n2_; have GW175 := n3_; have GE175 := n4_; have NB174_175 := n5_; have NB175_174 := n6_; clear n0_ n1_ n2_ n3_ n4_ n5_ n6_; clear hb hbox hg))
    have n0_ := Aside0.mk (blk_drew BK174.out)
    have n1_ := Aside0.mk (blk_drew BK175.out)
    have n2_ := Aside0.mk (below_drew1 HB.out)
    clear BK174
    clear BK175
    clear HB
    have BK174 := n0_
    have BK175 := n1_
    have HB := n2_
    clear n0_ n1_ n2_
    refine start_ (n := 13) (S := fun w' => w'.cell? ⟨gb174, 0, none⟩ = some (.int .i64 a0_0) ∧ w'.cell? ⟨gb174, 1, none⟩ = some (.int .i64 a0_1) ∧ w'.cell? ⟨gb174, 2, none⟩ = some (.int .i64 a0_2) ∧ w'.cell? ⟨gb174, 3, none⟩ = some (.int .i64 a0_3) ∧ w'.cell? ⟨gb174, 4, none⟩ = some (.string a0_4) ∧ w'.cell? ⟨gb174, 5, none⟩ = some (.float .f64 bv0_5) ∧ w'.cell? ⟨gb175, 0, none⟩ = some (.int .i64 a1_0) ∧ w'.cell? ⟨gb175, 1, none⟩ = some (.int .i64 a1_1) ∧ w'.cell? ⟨gb175, 2, none⟩ = some (.int .i64 a1_2) ∧ w'.cell? ⟨gb175, 3, none⟩ = some (.int .i64 a1_3) ∧ w'.cell? ⟨gb175, 4, none⟩ = some (.string a1_4) ∧ w'.cell? ⟨gb175, 5, none⟩ = some (.float .f64 bv1_5)) (ds := []) #[false, false, false, false, false, false, false, false, false, false, false, false, false] (by kernel_rfl) rfl rfl ⟨(blk_cell BK174.out 0).trans rfl, (blk_cell BK174.out 1).trans rfl, (blk_cell BK174.out 2).trans rfl, (blk_cell BK174.out 3).trans rfl, (blk_cell BK174.out 4).trans rfl, (blk_cell BK174.out 5).trans rfl, (blk_cell BK175.out 0).trans rfl, (blk_cell BK175.out 1).trans rfl, (blk_cell BK175.out 2).trans rfl, (blk_cell BK175.out 3).trans rfl, (blk_cell BK175.out 4).trans rfl, (blk_cell BK175.out 5).trans rfl⟩ (fun hHeld => ?_); refine with_tabW bonsairef13_Alike.tab1 bonsairef13_Alike.bits1 (fun HT_ HW_ => ?_)
    generalize w8.drew = w9 at BK174 BK175 HB hHeld ⊢
    refine pure_ (i := 0) (N := some 5) (v := ?_) (a' := ?_) #[true, false, false, false, false, false, false, false, false, false, false, false, false] rfl rfl (any_of HT_.out (by kernel_rfl)) (fun _ _ _ h => h) (Or.inl ⟨by rfl, ?_⟩) ?_ ?_
    rotate_left
    · intro w'
      go_simp
      with_reducible rfl
    rotate_left
    · simp only [Act.put, List.setIfInBounds_toArray, List.set_cons_zero, List.set_cons_succ, i64_w, i32_w]
      rfl
    refine pure_ (i := 2) (N := some 7) (v := ?_) (a' := ?_) #[true, false, true, false, false, false, false, false, false, false, false, false, false] rfl rfl (any_of HT_.out (by kernel_rfl)) (fun _ _ _ h => h) (Or.inl ⟨by rfl, ?_⟩) ?_ ?_
    rotate_left
    · intro w'
      go_simp
      with_reducible rfl
    rotate_left
    · simp only [Act.put, List.setIfInBounds_toArray, List.set_cons_zero, List.set_cons_succ, i64_w, i32_w]
      rfl
    refine take_ (i := 1) (N := some 6) (v := ?_) (a' := ?_) #[true, true, true, false, false, false, false, false, false, false, false, false, false] rfl rfl (take_ofW HT_.out HW_.out (by kernel_rfl)) (fun _ _ _ h => h) (Or.inl ⟨by rfl, ?_⟩) hHeld ?_ ?_
    rotate_left
    · rintro w' ⟨s0, s1, s2, s3, s4, s5, s6, s7, s8, s9, s10, s11⟩
      go_simp
      with_reducible rfl
    rotate_left
    · simp only [Act.put, List.setIfInBounds_toArray, List.set_cons_zero, List.set_cons_succ, i64_w, i32_w]
      rfl
    refine take_ (i := 3) (N := some 8) (v := ?_) (a' := ?_) #[true, true, true, true, false, false, false, false, false, false, false, false, false] rfl rfl (take_ofW HT_.out HW_.out (by kernel_rfl)) (fun _ _ _ h => h) (Or.inl ⟨by rfl, ?_⟩) hHeld ?_ ?_
    rotate_left
    · rintro w' ⟨s0, s1, s2, s3, s4, s5, s6, s7, s8, s9, s10, s11⟩
      go_simp
      with_reducible rfl
    rotate_left
    · simp only [Act.put, List.setIfInBounds_toArray, List.set_cons_zero, List.set_cons_succ, i64_w, i32_w]
      rfl
    refine pure_ (i := 4) (N := some 9) (v := ?_) (a' := ?_) #[true, true, true, true, true, false, false, false, false, false, false, false, false] rfl rfl (any_of HT_.out (by kernel_rfl)) (fun _ _ _ h => h) (Or.inl ⟨by rfl, ?_⟩) ?_ ?_
    rotate_left
    · intro w'
      go_simp
      with_reducible rfl
    rotate_left
    · simp only [Act.put, List.setIfInBounds_toArray, List.set_cons_zero, List.set_cons_succ, i64_w, i32_w]
      rfl
    refine pure_ (i := 5) (N := some 10) (v := ?_) (a' := ?_) #[true, true, true, true, true, true, false, false, false, false, false, false, false] rfl rfl (any_of HT_.out (by kernel_rfl)) (fun _ _ _ h => h) (Or.inl ⟨by rfl, ?_⟩) ?_ ?_
    rotate_left
    · intro w'
      go_simp
      with_reducible rfl
    rotate_left
    · simp only [Act.put, List.setIfInBounds_toArray, List.set_cons_zero, List.set_cons_succ, i64_w, i32_w]
      rfl
    refine take_ (i := 6) (N := some 11) (v := ?_) (a' := ?_) #[true, true, true, true, true, true, true, false, false, false, false, false, false] rfl rfl (take_ofW HT_.out HW_.out (by kernel_rfl)) (fun _ _ _ h => h) (Or.inl ⟨by rfl, ?_⟩) hHeld ?_ ?_
    rotate_left
    · rintro w' ⟨s0, s1, s2, s3, s4, s5, s6, s7, s8, s9, s10, s11⟩
      go_simp
      with_reducible rfl
    rotate_left
    · simp only [Act.put, List.setIfInBounds_toArray, List.set_cons_zero, List.set_cons_succ, i64_w, i32_w]
      rfl
    refine take_ (i := 8) (N := some 13) (v := ?_) (a' := ?_) #[true, true, true, true, true, true, true, false, true, false, false, false, false] rfl rfl (take_ofW HT_.out HW_.out (by kernel_rfl)) (fun _ _ _ h => h) (Or.inl ⟨by rfl, ?_⟩) hHeld ?_ ?_
    rotate_left
    · rintro w' ⟨s0, s1, s2, s3, s4, s5, s6, s7, s8, s9, s10, s11⟩
      go_simp
      with_reducible rfl
    rotate_left
    · simp only [Act.put, List.setIfInBounds_toArray, List.set_cons_zero, List.set_cons_succ, i64_w, i32_w]
      rfl
    refine one_ (i := 7) (N := some 12) #[true, true, true, true, true, true, true, true, true, false, false, false, false] rfl rfl (one_of HT_.out (by kernel_rfl)) (by decide) (fun K hK => ?_)
    refine goes_ Try.func74 (by kernel_rfl) rfl #[.agg #[.int .i64 a0_0, .int .i64 a0_1, .int .i64 a0_2, .int .i64 a0_3, .string a0_4, .float .f64 bv0_5]] (by rfl) rfl rfl (by (try simp only [List.map_toArray, List.map_cons, List.map_nil]); first | done | rfl | (simp only [List.length_drop, List.length_take]; rfl)) ?_
    with_reducible refine (bonsairef13_Row.calls a0_0 a0_1 a0_2 a0_3 a0_4 _ a0_5 t176 t177 t178 t179 _ ?side1 A4.out).mono ?_
    (case side1 => exact (by first | assumption | exact FB_lit _ _ rfl | exact FB_int _ | simpa using (by assumption)))
    rintro e w10 ⟨bv180, rfl, bq180, hb⟩
    refine ⟨_, rfl, ?_⟩
    have n0_ := Aside0.mk (blk_below (g := gb174) (o := .cells #[.int .i64 a0_0, .int .i64 a0_1, .int .i64 a0_2, .int .i64 a0_3, .string a0_4, .float .f64 bv0_5] 30 (0, 0)) (by (with_reducible repeat (first | refine blk_drewN ?_ _ | refine blk_drew ?_ | refine blk_alloc ?_ _)); exact BK174.out) hb)
    have n1_ := Aside0.mk (blk_below (g := gb175) (o := .cells #[.int .i64 a1_0, .int .i64 a1_1, .int .i64 a1_2, .int .i64 a1_3, .string a1_4, .float .f64 bv1_5] 30 (0, 0)) (by (with_reducible repeat (first | refine blk_drewN ?_ _ | refine blk_drew ?_ | refine blk_alloc ?_ _)); exact BK175.out) hb)
    have n2_ := Aside0.mk (below_step (by repeat (first | (with_reducible first | exact HB.out | apply below_alloc | apply pw_below_drewN | apply below_drew1 | refine below_set ?_ GE174.out | refine below_set ?_ GE175.out) | exact HB.out)) hb)
    clear BK174
    clear BK175
    clear HB
    have BK174 := n0_
    have BK175 := n1_
    have HB := n2_
    clear n0_ n1_ n2_
    (try clear hb)
    (try clear hb2)
    (try clear hk)
    (try clear hi)
    refine hK.out _ _ ⟨(blk_cell BK174.out 0).trans rfl, (blk_cell BK174.out 1).trans rfl, (blk_cell BK174.out 2).trans rfl, (blk_cell BK174.out 3).trans rfl, (blk_cell BK174.out 4).trans rfl, (blk_cell BK174.out 5).trans rfl, (blk_cell BK175.out 0).trans rfl, (blk_cell BK175.out 1).trans rfl, (blk_cell BK175.out 2).trans rfl, (blk_cell BK175.out 3).trans rfl, (blk_cell BK175.out 4).trans rfl, (blk_cell BK175.out 5).trans rfl⟩ (fun hHeld => ?_)
    clear hK K
    refine norm_ (a' := ?_) ?_ ?_
    rotate_left
    · show Act.put _ (some 12) _ = _
      simp only [Act.put, List.setIfInBounds_toArray, List.set_cons_zero, List.set_cons_succ, i64_w, i32_w]
      rfl
    refine one_ (i := 9) (N := some 14) #[true, true, true, true, true, true, true, true, true, true, false, false, false] rfl rfl (one_of HT_.out (by kernel_rfl)) (by decide) (fun K hK => ?_)
    refine goes_ Try.func74 (by kernel_rfl) rfl #[.agg #[.int .i64 a1_0, .int .i64 a1_1, .int .i64 a1_2, .int .i64 a1_3, .string a1_4, .float .f64 bv1_5]] (by rfl) rfl rfl (by (try simp only [List.map_toArray, List.map_cons, List.map_nil]); first | done | rfl | (simp only [List.length_drop, List.length_take]; rfl)) ?_
    with_reducible refine (bonsairef13_Row.calls a1_0 a1_1 a1_2 a1_3 a1_4 _ a1_5 t181 t182 t183 t184 _ ?side1 A5.out).mono ?_
    (case side1 => exact (by first | assumption | exact FB_lit _ _ rfl | exact FB_int _ | simpa using (by assumption)))
    rintro e w11 ⟨bv185, rfl, bq185, hb⟩
    refine ⟨_, rfl, ?_⟩
    have n0_ := Aside0.mk (blk_below (g := gb174) (o := .cells #[.int .i64 a0_0, .int .i64 a0_1, .int .i64 a0_2, .int .i64 a0_3, .string a0_4, .float .f64 bv0_5] 30 (0, 0)) (by (with_reducible repeat (first | refine blk_drewN ?_ _ | refine blk_drew ?_ | refine blk_alloc ?_ _)); exact BK174.out) hb)
    have n1_ := Aside0.mk (blk_below (g := gb175) (o := .cells #[.int .i64 a1_0, .int .i64 a1_1, .int .i64 a1_2, .int .i64 a1_3, .string a1_4, .float .f64 bv1_5] 30 (0, 0)) (by (with_reducible repeat (first | refine blk_drewN ?_ _ | refine blk_drew ?_ | refine blk_alloc ?_ _)); exact BK175.out) hb)
    have n2_ := Aside0.mk (below_step (by repeat (first | (with_reducible first | exact HB.out | apply below_alloc | apply pw_below_drewN | apply below_drew1 | refine below_set ?_ GE174.out | refine below_set ?_ GE175.out) | exact HB.out)) hb)
    clear BK174
    clear BK175
    clear HB
    have BK174 := n0_
    have BK175 := n1_
    have HB := n2_
    clear n0_ n1_ n2_
    (try clear hb)
    (try clear hb2)
    (try clear hk)
    (try clear hi)
    refine hK.out _ _ ⟨(blk_cell BK174.out 0).trans rfl, (blk_cell BK174.out 1).trans rfl, (blk_cell BK174.out 2).trans rfl, (blk_cell BK174.out 3).trans rfl, (blk_cell BK174.out 4).trans rfl, (blk_cell BK174.out 5).trans rfl, (blk_cell BK175.out 0).trans rfl, (blk_cell BK175.out 1).trans rfl, (blk_cell BK175.out 2).trans rfl, (blk_cell BK175.out 3).trans rfl, (blk_cell BK175.out 4).trans rfl, (blk_cell BK175.out 5).trans rfl⟩ (fun hHeld => ?_)
    clear hK K
    refine norm_ (a' := ?_) ?_ ?_
    rotate_left
    · show Act.put _ (some 14) _ = _
      simp only [Act.put, List.setIfInBounds_toArray, List.set_cons_zero, List.set_cons_succ, i64_w, i32_w]
      rfl
    refine one_ (i := 10) (N := some 15) #[true, true, true, true, true, true, true, true, true, true, true, false, false] rfl rfl (one_of HT_.out (by kernel_rfl)) (by decide) (fun K hK => ?_)
    refine goes_ Try.func75 (by kernel_rfl) rfl #[.agg #[.int .i64 t176, .int .i64 t177, .string t178, .float .f64 bv180], .agg #[.int .i64 t181, .int .i64 t182, .string t183, .float .f64 bv185]] (by rfl) rfl rfl (by (try simp only [List.map_toArray, List.map_cons, List.map_nil]); first | done | rfl | (simp only [List.length_drop, List.length_take]; rfl)) ?_
    with_reducible refine (bonsairef12_Alike.calls t176 t177 t178 _ t179 t181 t182 t183 _ t184 t186 _ ?side1 ?side2 A6.out).mono ?_
    (case side1 => exact (by first | assumption | exact FB_lit _ _ rfl | exact FB_int _ | simpa using (by assumption)))
    (case side2 => exact (by first | assumption | exact FB_lit _ _ rfl | exact FB_int _ | simpa using (by assumption)))
    rintro e w12 ⟨rfl, hb⟩
    refine ⟨_, rfl, ?_⟩
    have n0_ := Aside0.mk (blk_below (g := gb174) (o := .cells #[.int .i64 a0_0, .int .i64 a0_1, .int .i64 a0_2, .int .i64 a0_3, .string a0_4, .float .f64 bv0_5] 30 (0, 0)) (by (with_reducible repeat (first | refine blk_drewN ?_ _ | refine blk_drew ?_ | refine blk_alloc ?_ _)); exact BK174.out) hb)
    have n1_ := Aside0.mk (blk_below (g := gb175) (o := .cells #[.int .i64 a1_0, .int .i64 a1_1, .int .i64 a1_2, .int .i64 a1_3, .string a1_4, .float .f64 bv1_5] 30 (0, 0)) (by (with_reducible repeat (first | refine blk_drewN ?_ _ | refine blk_drew ?_ | refine blk_alloc ?_ _)); exact BK175.out) hb)
    have n2_ := Aside0.mk (below_step (by repeat (first | (with_reducible first | exact HB.out | apply below_alloc | apply pw_below_drewN | apply below_drew1 | refine below_set ?_ GE174.out | refine below_set ?_ GE175.out) | exact HB.out)) hb)
    clear BK174
    clear BK175
    clear HB
    have BK174 := n0_
    have BK175 := n1_
    have HB := n2_
    clear n0_ n1_ n2_
    (try clear hb)
    (try clear hb2)
    (try clear hk)
    (try clear hi)
    refine hK.out _ _ ⟨(blk_cell BK174.out 0).trans rfl, (blk_cell BK174.out 1).trans rfl, (blk_cell BK174.out 2).trans rfl, (blk_cell BK174.out 3).trans rfl, (blk_cell BK174.out 4).trans rfl, (blk_cell BK174.out 5).trans rfl, (blk_cell BK175.out 0).trans rfl, (blk_cell BK175.out 1).trans rfl, (blk_cell BK175.out 2).trans rfl, (blk_cell BK175.out 3).trans rfl, (blk_cell BK175.out 4).trans rfl, (blk_cell BK175.out 5).trans rfl⟩ (fun hHeld => ?_)
    clear hK K
    refine norm_ (a' := ?_) ?_ ?_
    rotate_left
    · show Act.put _ (some 15) _ = _
      simp only [Act.put, List.setIfInBounds_toArray, List.set_cons_zero, List.set_cons_succ, i64_w, i32_w]
      rfl
    refine pure_ (i := 11) (N := some 16) (v := ?_) (a' := ?_) #[true, true, true, true, true, true, true, true, true, true, true, true, false] rfl rfl (any_of HT_.out (by kernel_rfl)) (fun _ _ _ h => h) (Or.inl ⟨by rfl, ?_⟩) ?_ ?_
    rotate_left
    · intro w'
      go_simp
      with_reducible rfl
    rotate_left
    · simp only [Act.put, List.setIfInBounds_toArray, List.set_cons_zero, List.set_cons_succ, i64_w, i32_w]
      rfl
    refine pure_ (i := 12) (N := some 4) (v := ?_) (a' := ?_) #[true, true, true, true, true, true, true, true, true, true, true, true, true] rfl rfl (any_of HT_.out (by kernel_rfl)) (fun _ _ _ h => h) (Or.inl ⟨by rfl, ?_⟩) ?_ ?_
    rotate_left
    · intro w'
      go_simp
      with_reducible rfl
    rotate_left
    · simp only [Act.put, List.setIfInBounds_toArray, List.set_cons_zero, List.set_cons_succ, i64_w, i32_w]
      rfl
    refine done_ (done_of HT_.out (by kernel_rfl)) ?_
    try go_wp2
    go_ret
    exact ⟨by first | rfl | (simp [errW_none, errW_some] <;> rfl) | (simp [*, errW_none, errW_some] <;> rfl), by repeat (first | (with_reducible first | exact HB.out | apply below_alloc | apply pw_below_drewN | apply below_drew1 | refine below_set ?_ GE174.out | refine below_set ?_ GE175.out) | exact HB.out)⟩
  · rw [if_neg c3] at H
    have c3b0 : (a0_0 == a1_0 && (a0_1 == a1_1)) = false := by simpa using c3
    (try (have c3b1 : decide (a0_0 = a1_0 && (a0_1 == a1_1)) = false := by simpa using c3))
    (try (have c3b2 : (a0_0 == a1_0 && (a0_1 == a1_1)) = false := by simpa using c3))
    (try (have c3b3 : ¬ (a0_0 = a1_0 && (a0_1 == a1_1)) := by simpa using c3))
    clear c3
    obtain rfl := Option.some.inj H
    go_enter Try.func44, Try.ntmps44
    try go_wp2_with (first | ((with_reducible refine gate_dst (N := 2) rfl ?_); refine box_event ?hg (N := 2) ?hd (cs := #[.int .i64 a0_0, .int .i64 a0_1, .int .i64 a0_2, .int .i64 a0_3, .string a0_4, .float .f64 bv0_5]) (t := 30) ?hr ?_; (case hd => rfl); (case hg => rfl); (case hr => first | (go_simp; done) | (go_simp; rfl)); intro gb174 hg w13 hbox hb; have n0_ := Aside0.mk (below_step (by repeat (first | (with_reducible first | exact HB.out | apply below_alloc | apply pw_below_drewN | apply below_drew1) | exact HB.out)) hb); have n1_ := Aside0.mk (hbox); have n2_ := Aside0.mk ((by rw [hg]; exact (below_size (by repeat (first | (with_reducible first | exact HB.out | apply below_alloc | apply pw_below_drewN | apply below_drew1) | exact HB.out))) : w.heap.size ≤ gb174)); have n3_ := Aside0.mk ((by rw [hg]; exact (below_size (by repeat (first | (with_reducible first | exact HB.out | apply below_alloc | apply pw_below_drewN | apply below_drew1) | exact HB.out))) : w.heap.size ≤ gb174)); clear HB; have HB := n0_; have BK174 := n1_; have GW174 := n2_; have GE174 := n3_; clear n0_ n1_ n2_ n3_; clear hb hbox hg) | ((with_reducible refine gate_dst (N := 3) rfl ?_); refine box_event ?hg (N := 3) ?hd (cs := #[.int .i64 a1_0, .int .i64 a1_1, .int .i64 a1_2, .int .i64 a1_3, .string a1_4, .float .f64 bv1_5]) (t := 30) ?hr ?_; (case hd => rfl); (case hg => rfl); (case hr => first | (go_simp; done) | (go_simp; rfl)); intro gb175 hg w14 hbox hb; have n0_ := Aside0.mk (blk_below (g := gb174) (o := .cells #[.int .i64 a0_0, .int .i64 a0_1, .int .i64 a0_2, .int .i64 a0_3, .string a0_4, .float .f64 bv0_5] 30 (0, 0)) (by (with_reducible repeat (first | refine blk_drewN ?_ _ | refine blk_drew ?_ | refine blk_alloc ?_ _)); exact BK174.out) hb); have n1_ := Aside0.mk (below_step (by repeat (first | (with_reducible first | exact HB.out | apply below_alloc | apply pw_below_drewN | apply below_drew1 | refine below_set ?_ GE174.out) | exact HB.out)) hb); have n2_ := Aside0.mk (hbox); have n3_ := Aside0.mk ((by rw [hg]; exact (below_size (by repeat (first | (with_reducible first | exact HB.out | apply below_alloc | apply pw_below_drewN | apply below_drew1 | refine below_set ?_ GE174.out) | exact HB.out))) : w.heap.size ≤ gb175)); have n4_ := Aside0.mk ((by rw [hg]; exact (below_size (by repeat (first | (with_reducible first | exact HB.out | apply below_alloc | apply pw_below_drewN | apply below_drew1 | refine below_set ?_ GE174.out) | exact HB.out))) : w.heap.size ≤ gb175)); have n5_ := Aside0.mk ((by rw [hg]; exact Nat.ne_of_lt (blk_lt (g := gb174) (o := .cells #[.int .i64 a0_0, .int .i64 a0_1, .int .i64 a0_2, .int .i64 a0_3, .string a0_4, .float .f64 bv0_5] 30 (0, 0)) (by (with_reducible repeat (first | refine blk_drewN ?_ _ | refine blk_drew ?_ | refine blk_alloc ?_ _)); exact BK174.out)) : gb174 ≠ gb175)); have n6_ := Aside0.mk ((by rw [hg]; exact Nat.ne_of_gt (blk_lt (g := gb174) (o := .cells #[.int .i64 a0_0, .int .i64 a0_1, .int .i64 a0_2, .int .i64 a0_3, .string a0_4, .float .f64 bv0_5] 30 (0, 0)) (by (with_reducible repeat (first | refine blk_drewN ?_ _ | refine blk_drew ?_ | refine blk_alloc ?_ _)); exact BK174.out)) : gb175 ≠ gb174)); clear BK174; clear HB; have BK174 := n0_; have HB := n1_; have BK175 := n2_; have GW175 := n3_; have GE175 := n4_; have NB174_175 := n5_; have NB175_174 := n6_; clear n0_ n1_ n2_ n3_ n4_ n5_ n6_; clear hb hbox hg))
    have n0_ := Aside0.mk (blk_drew BK174.out)
    have n1_ := Aside0.mk (blk_drew BK175.out)
    have n2_ := Aside0.mk (below_drew1 HB.out)
    clear BK174
    clear BK175
    clear HB
    have BK174 := n0_
    have BK175 := n1_
    have HB := n2_
    clear n0_ n1_ n2_
    refine start_ (n := 13) (S := fun w' => w'.cell? ⟨gb174, 0, none⟩ = some (.int .i64 a0_0) ∧ w'.cell? ⟨gb174, 1, none⟩ = some (.int .i64 a0_1) ∧ w'.cell? ⟨gb174, 2, none⟩ = some (.int .i64 a0_2) ∧ w'.cell? ⟨gb174, 3, none⟩ = some (.int .i64 a0_3) ∧ w'.cell? ⟨gb174, 4, none⟩ = some (.string a0_4) ∧ w'.cell? ⟨gb174, 5, none⟩ = some (.float .f64 bv0_5) ∧ w'.cell? ⟨gb175, 0, none⟩ = some (.int .i64 a1_0) ∧ w'.cell? ⟨gb175, 1, none⟩ = some (.int .i64 a1_1) ∧ w'.cell? ⟨gb175, 2, none⟩ = some (.int .i64 a1_2) ∧ w'.cell? ⟨gb175, 3, none⟩ = some (.int .i64 a1_3) ∧ w'.cell? ⟨gb175, 4, none⟩ = some (.string a1_4) ∧ w'.cell? ⟨gb175, 5, none⟩ = some (.float .f64 bv1_5)) (ds := []) #[false, false, false, false, false, false, false, false, false, false, false, false, false] (by kernel_rfl) rfl rfl ⟨(blk_cell BK174.out 0).trans rfl, (blk_cell BK174.out 1).trans rfl, (blk_cell BK174.out 2).trans rfl, (blk_cell BK174.out 3).trans rfl, (blk_cell BK174.out 4).trans rfl, (blk_cell BK174.out 5).trans rfl, (blk_cell BK175.out 0).trans rfl, (blk_cell BK175.out 1).trans rfl, (blk_cell BK175.out 2).trans rfl, (blk_cell BK175.out 3).trans rfl, (blk_cell BK175.out 4).trans rfl, (blk_cell BK175.out 5).trans rfl⟩ (fun hHeld => ?_); refine with_tabW bonsairef13_Alike.tab1 bonsairef13_Alike.bits1 (fun HT_ HW_ => ?_)
    generalize w14.drew = w15 at BK174 BK175 HB hHeld ⊢
    refine pure_ (i := 0) (N := some 5) (v := ?_) (a' := ?_) #[true, false, false, false, false, false, false, false, false, false, false, false, false] rfl rfl (any_of HT_.out (by kernel_rfl)) (fun _ _ _ h => h) (Or.inl ⟨by rfl, ?_⟩) ?_ ?_
    rotate_left
    · intro w'
      go_simp
      with_reducible rfl
    rotate_left
    · simp only [Act.put, List.setIfInBounds_toArray, List.set_cons_zero, List.set_cons_succ, i64_w, i32_w]
      rfl
    refine pure_ (i := 2) (N := some 7) (v := ?_) (a' := ?_) #[true, false, true, false, false, false, false, false, false, false, false, false, false] rfl rfl (any_of HT_.out (by kernel_rfl)) (fun _ _ _ h => h) (Or.inl ⟨by rfl, ?_⟩) ?_ ?_
    rotate_left
    · intro w'
      go_simp
      with_reducible rfl
    rotate_left
    · simp only [Act.put, List.setIfInBounds_toArray, List.set_cons_zero, List.set_cons_succ, i64_w, i32_w]
      rfl
    refine take_ (i := 1) (N := some 6) (v := ?_) (a' := ?_) #[true, true, true, false, false, false, false, false, false, false, false, false, false] rfl rfl (take_ofW HT_.out HW_.out (by kernel_rfl)) (fun _ _ _ h => h) (Or.inl ⟨by rfl, ?_⟩) hHeld ?_ ?_
    rotate_left
    · rintro w' ⟨s0, s1, s2, s3, s4, s5, s6, s7, s8, s9, s10, s11⟩
      go_simp
      with_reducible rfl
    rotate_left
    · simp only [Act.put, List.setIfInBounds_toArray, List.set_cons_zero, List.set_cons_succ, i64_w, i32_w]
      rfl
    refine take_ (i := 3) (N := some 8) (v := ?_) (a' := ?_) #[true, true, true, true, false, false, false, false, false, false, false, false, false] rfl rfl (take_ofW HT_.out HW_.out (by kernel_rfl)) (fun _ _ _ h => h) (Or.inl ⟨by rfl, ?_⟩) hHeld ?_ ?_
    rotate_left
    · rintro w' ⟨s0, s1, s2, s3, s4, s5, s6, s7, s8, s9, s10, s11⟩
      go_simp
      with_reducible rfl
    rotate_left
    · simp only [Act.put, List.setIfInBounds_toArray, List.set_cons_zero, List.set_cons_succ, i64_w, i32_w]
      rfl
    refine pure_ (i := 4) (N := some 9) (v := ?_) (a' := ?_) #[true, true, true, true, true, false, false, false, false, false, false, false, false] rfl rfl (any_of HT_.out (by kernel_rfl)) (fun _ _ _ h => h) (Or.inl ⟨by rfl, ?_⟩) ?_ ?_
    rotate_left
    · intro w'
      go_simp
      with_reducible rfl
    rotate_left
    · simp only [Act.put, List.setIfInBounds_toArray, List.set_cons_zero, List.set_cons_succ, i64_w, i32_w]
      rfl
    refine pure_ (i := 5) (N := some 10) (v := ?_) (a' := ?_) #[true, true, true, true, true, true, false, false, false, false, false, false, false] rfl rfl (any_of HT_.out (by kernel_rfl)) (fun _ _ _ h => h) (Or.inl ⟨by rfl, ?_⟩) ?_ ?_
    rotate_left
    · intro w'
      go_simp
      with_reducible rfl
    rotate_left
    · simp only [Act.put, List.setIfInBounds_toArray, List.set_cons_zero, List.set_cons_succ, i64_w, i32_w]
      rfl
    refine pure_ (i := 6) (N := some 11) (v := undef) (a' := ?_) #[true, true, true, true, true, true, true, false, false, false, false, false, false] rfl rfl (any_of HT_.out (by kernel_rfl)) (fun _ _ _ h => h) (Or.inr ⟨by rfl, rfl⟩) ?_ ?_
    rotate_left
    · simp only [Act.put, List.setIfInBounds_toArray, List.set_cons_zero, List.set_cons_succ, i64_w, i32_w]
      rfl
    refine pure_ (i := 7) (N := some 12) (v := undef) (a' := ?_) #[true, true, true, true, true, true, true, true, false, false, false, false, false] rfl rfl (any_of HT_.out (by kernel_rfl)) (fun _ _ _ h => h) (Or.inr ⟨by rfl, rfl⟩) ?_ ?_
    rotate_left
    · simp only [Act.put, List.setIfInBounds_toArray, List.set_cons_zero, List.set_cons_succ, i64_w, i32_w]
      rfl
    refine pure_ (i := 8) (N := some 13) (v := undef) (a' := ?_) #[true, true, true, true, true, true, true, true, true, false, false, false, false] rfl rfl (any_of HT_.out (by kernel_rfl)) (fun _ _ _ h => h) (Or.inr ⟨by rfl, rfl⟩) ?_ ?_
    rotate_left
    · simp only [Act.put, List.setIfInBounds_toArray, List.set_cons_zero, List.set_cons_succ, i64_w, i32_w]
      rfl
    refine pure_ (i := 9) (N := some 14) (v := undef) (a' := ?_) #[true, true, true, true, true, true, true, true, true, true, false, false, false] rfl rfl (any_of HT_.out (by kernel_rfl)) (fun _ _ _ h => h) (Or.inr ⟨by rfl, rfl⟩) ?_ ?_
    rotate_left
    · simp only [Act.put, List.setIfInBounds_toArray, List.set_cons_zero, List.set_cons_succ, i64_w, i32_w]
      rfl
    refine pure_ (i := 10) (N := some 15) (v := undef) (a' := ?_) #[true, true, true, true, true, true, true, true, true, true, true, false, false] rfl rfl (any_of HT_.out (by kernel_rfl)) (fun _ _ _ h => h) (Or.inr ⟨by rfl, rfl⟩) ?_ ?_
    rotate_left
    · simp only [Act.put, List.setIfInBounds_toArray, List.set_cons_zero, List.set_cons_succ, i64_w, i32_w]
      rfl
    refine pure_ (i := 11) (N := some 16) (v := ?_) (a' := ?_) #[true, true, true, true, true, true, true, true, true, true, true, true, false] rfl rfl (any_of HT_.out (by kernel_rfl)) (fun _ _ _ h => h) (Or.inl ⟨by rfl, ?_⟩) ?_ ?_
    rotate_left
    · intro w'
      go_simp
      with_reducible rfl
    rotate_left
    · simp only [Act.put, List.setIfInBounds_toArray, List.set_cons_zero, List.set_cons_succ, i64_w, i32_w]
      rfl
    refine pure_ (i := 12) (N := some 4) (v := ?_) (a' := ?_) #[true, true, true, true, true, true, true, true, true, true, true, true, true] rfl rfl (any_of HT_.out (by kernel_rfl)) (fun _ _ _ h => h) (Or.inl ⟨by rfl, ?_⟩) ?_ ?_
    rotate_left
    · intro w'
      go_simp
      with_reducible rfl
    rotate_left
    · simp only [Act.put, List.setIfInBounds_toArray, List.set_cons_zero, List.set_cons_succ, i64_w, i32_w]
      rfl
    refine done_ (done_of HT_.out (by kernel_rfl)) ?_
    try go_wp2
    go_ret
    exact ⟨by first | rfl | (simp [errW_none, errW_some] <;> rfl) | (simp [*, errW_none, errW_some] <;> rfl), by repeat (first | (with_reducible first | exact HB.out | apply below_alloc | apply pw_below_drewN | apply below_drew1 | refine below_set ?_ GE174.out | refine below_set ?_ GE175.out) | exact HB.out)⟩
end Go.Proofs.Ytfgnjndfnijjoaa.Print
end
section
namespace Go.Proofs.Ytfgnjndfnijjoaa.Print
open Go.RowKit Go.Proofs.YtfgnjndfnijjoaaW.PrintWords Go.Proofs.YtfgnjndfnijjoaaW.PrintLast Go.Proofs.YtfgnjndfnijjoaaW.PrintMore
attribute [local go_sem] max2_int min2_int max_two min_two max_three min_three max_four min_four
attribute [local go_sem] run_store_float
set_option linter.unusedVariables false
set_option linter.unusedSimpArgs false
def bonsairef13_Same.l0 : Nat → List (S30) → List (S30) → Int → Option (Bool)
  | 0, _, _, _ => none
  | k + 1, x0, x1, x5 => if x5 < (x0.length : Int) then (if 0 ≤ x5 then (if x5 < (x1.length : Int) then ((bonsairef13_Alike.f ((rd_T30 x0 x5).f0.f0) ((rd_T30 x0 x5).f0.f1) ((rd_T30 x0 x5).f1) ((rd_T30 x0 x5).f2) ((rd_T30 x0 x5).f3) ((rd_T30 x0 x5).f4) ((rd_T30 x1 x5).f0.f0) ((rd_T30 x1 x5).f0.f1) ((rd_T30 x1 x5).f1) ((rd_T30 x1 x5).f2) ((rd_T30 x1 x5).f3) ((rd_T30 x1 x5).f4)).bind fun t189 => (if t189 = true then (bonsairef13_Same.l0 k x0 x1 (wrap64 (x5 + 1))) else (some false))) else (none)) else (none)) else (some true)
def bonsairef13_Same.f (k : Nat) (l0 : List (S30)) (l1 : List (S30)) : Option (Bool) := if (l0.length : Int) = (l1.length : Int) then (bonsairef13_Same.l0 k l0 l1 0) else (some false)
theorem bonsairef13_Same.mono_l : ∀ k, (∀ y0 y1 y2, LeO (bonsairef13_Same.l0 k y0 y1 y2) (bonsairef13_Same.l0 (k + 1) y0 y1 y2))
  | 0 => fun _ _ _ r h => by simp [bonsairef13_Same.l0] at h
  | k + 1 => by
    have ih0 := bonsairef13_Same.mono_l k
    · intro y0 y1 y2
      unfold bonsairef13_Same.l0
      repeat' first
      | (with_reducible exact ih0 _ _ _)
      | (with_reducible exact LeO.refl _)
      | (with_reducible exact LeO.none _)
      | (with_reducible refine LeO.ite ?_ ?_)
      | (with_reducible refine LeO.bind ?_ (fun _ => ?_))
      | exact ih0 _ _ _
      | exact LeO.none _
      | refine LeO.ite ?_ ?_
      | refine LeO.bind ?_ (fun _ => ?_)
theorem bonsairef13_Same.mono : ∀ a0 a1 k, LeO (bonsairef13_Same.f k a0 a1) (bonsairef13_Same.f (k + 1) a0 a1) := by
  intro a0 a1 k
  have ih0 := bonsairef13_Same.mono_l k
  unfold bonsairef13_Same.f
  repeat' first
      | (with_reducible exact ih0 _ _ _)
      | (with_reducible exact LeO.refl _)
      | (with_reducible exact LeO.none _)
      | (with_reducible refine LeO.ite ?_ ?_)
      | (with_reducible refine LeO.bind ?_ (fun _ => ?_))
      | exact ih0 _ _ _
      | exact LeO.none _
      | refine LeO.ite ?_ ?_
      | refine LeO.bind ?_ (fun _ => ?_)
def bonsairef13_Same.T6 : Bool × List (List Nat × List Nat) := (true, [([], []), ([], []), ([0, 1], [0, 1]), ([2], [2]), ([], []), ([], []), ([4, 5], [4, 5]), ([6], [6]), ([3, 7], [3, 7]), ([8], [8])])
def bonsairef13_Same.B6 : List Nat := [0, 0, 3, 7, 0, 0, 48, 112, 255, 511]
theorem bonsairef13_Same.tab6 : rtab .any (opsOf Try.f15 6) = bonsairef13_Same.T6 := by kernel_rfl
theorem bonsairef13_Same.bits6 : waitsOk bonsairef13_Same.T6.2 bonsairef13_Same.B6 = true := by kernel_rfl
set_option maxHeartbeats 8000000 in
set_option maxRecDepth 100000 in
theorem bonsairef13_Same.calls (k : Nat) (A0 : Option Addr) (c0 : Nat) (l0 : List (S30)) (A1 : Option Addr) (c1 : Nat) (l1 : List (S30)) (r : Bool) (w : World) (hr0 : Kd.C k30 w A0 l0.length l0) (hc0 : l0.length ≤ c0) (hr1 : Kd.C k30 w A1 l1.length l1) (hc1 : l1.length ≤ c1) (h : bonsairef13_Same.f k l0 l1 = some r) :
    Calls Try.prog 15 #[.slice A0 l0.length c0, .slice A1 l1.length c1] w fun e w' => e = .returned (.bool r) ∧ Below w.heap.size w w' := by
  have hu30 := Try.underlying30
  have HR0 := Aside0.mk hr0
  have HC0 := Aside0.mk hc0
  clear hr0 hc0
  have HR1 := Aside0.mk hr1
  have HC1 := Aside0.mk hc1
  clear hr1 hc1
  have HB := Aside0.mk (Below.refl w.heap.size w)
  have H : (if (l0.length : Int) = (l1.length : Int) then (bonsairef13_Same.l0 k l0 l1 0) else (some false)) = some r := h
  clear h
  by_cases c3 : (l0.length : Int) = (l1.length : Int)
  · rw [if_pos c3] at H
    have c3b0 : ((l0.length : Int) == (l1.length : Int)) = true := beq_iff_eq.mpr c3
    have c3b1 : ((l0.length : Int) != (l1.length : Int)) = false := bne_eq_false_iff_eq.mpr c3
    have c3b2 : (l0.length == l1.length) = true := by first | simpa using c3 | (simp at c3 ⊢; omega)
    clear c3
    have H' := Aside0.mk H
    clear H
    go_enter Try.func15, Try.ntmps15
    go_wp2
    go_loopg [5] k (fun kq v5 w' => ∃ (x5_1 : Int), v5 = .int .i64 x5_1 ∧ Aside0 (bonsairef13_Same.l0 kq l0 l1 x5_1 = some r) ∧ Aside0 (kq ≤ k) ∧ Aside0 (Below w.heap.size w w'))
    case atStart => exact ⟨(0), (by first | rfl | (simp; done) | (simp [*]; done)), H', ⟨Nat.le_refl _⟩, ⟨by repeat (first | (with_reducible first | exact HB.out | apply below_alloc | apply pw_below_drewN | apply below_drew1) | exact HB.out)⟩⟩
    case round =>
      clear H'
      try clear c1
      try clear p2
      try clear c3
      try clear c3b0
      try clear c3b1
      try clear c3b2
      obtain ⟨x5_1, rfl, HA, HK1, HB⟩ := hrel
      cases gk with
      | zero => exact absurd HA.out (by simp [bonsairef13_Same.l0])
      | succ k1 =>
        have H := HA.out
        clear HA
        simp only [bonsairef13_Same.l0] at H
        by_cases c4 : x5_1 < (l0.length : Int)
        · rw [if_pos c4] at H
          have c4b0 : decide (x5_1 < (l0.length : Int)) = true := decide_eq_true c4
          clear c4
          by_cases c5 : 0 ≤ x5_1
          · rw [if_pos c5] at H
            have c5b0 : decide (0 ≤ x5_1) = true := decide_eq_true c5
            clear c5
            by_cases c6 : x5_1 < (l1.length : Int)
            · rw [if_pos c6] at H
              have c6b0 : decide (x5_1 < (l1.length : Int)) = true := decide_eq_true c6
              clear c6
              replace H := Option.bind_eq_some_iff.mp H
              obtain ⟨t189, A70, H⟩ := H
              replace H : (if t189 = true then (bonsairef13_Same.l0 k1 l0 l1 (wrap64 (x5_1 + 1))) else (some false)) = some r := H
              have A7 := Aside0.mk A70
              clear A70
              by_cases c8 : t189 = true
              · subst c8
                have H1 : (bonsairef13_Same.l0 k1 l0 l1 (wrap64 (x5_1 + 1))) = some r := by rw [if_pos rfl] at H; exact H
                clear H
                have H := H1
                clear H1
                have H' := Aside0.mk H
                clear H
                try go_wp2
                have n0_ := Aside0.mk (below_drew1 HB.out)
                clear HB
                have HB := n0_
                clear n0_
                have p187 : 0 ≤ (x5_1 : Int) := of_decide_eq_true (by first | (with_reducible assumption) | assumption)
                have q187 : x5_1 < (l0.length : Int) := of_decide_eq_true (by first | (with_reducible assumption) | assumption)
                obtain ⟨ad187, bv187_5, e187, hx187_0, hx187_1, hx187_2, hx187_3, hx187_4, hx187_5, bq187_5⟩ := at_T30 HR0.out x5_1 p187 q187
                have hw187_5 := hx187_5
                have hw187_4 := hx187_4
                have hw187_3 := hx187_3
                have hw187_2 := hx187_2
                have hw187_1 := hx187_1
                have hw187_0 := hx187_0
                cases e187
                replace hx187_0 := (HB.out.cell (World.block_lt_of_cell? w _ hx187_0)).trans hx187_0
                replace hx187_1 := (HB.out.cell (World.block_lt_of_cell? w _ hx187_1)).trans hx187_1
                replace hx187_2 := (HB.out.cell (World.block_lt_of_cell? w _ hx187_2)).trans hx187_2
                replace hx187_3 := (HB.out.cell (World.block_lt_of_cell? w _ hx187_3)).trans hx187_3
                replace hx187_4 := (HB.out.cell (World.block_lt_of_cell? w _ hx187_4)).trans hx187_4
                replace hx187_5 := (HB.out.cell (World.block_lt_of_cell? w _ hx187_5)).trans hx187_5
                replace p187 := eq_true p187
                replace q187 := eq_true q187
                have p188 : 0 ≤ (x5_1 : Int) := of_decide_eq_true (by first | (with_reducible assumption) | assumption)
                have q188 : x5_1 < (l1.length : Int) := of_decide_eq_true (by first | (with_reducible assumption) | assumption)
                obtain ⟨ad188, bv188_5, e188, hx188_0, hx188_1, hx188_2, hx188_3, hx188_4, hx188_5, bq188_5⟩ := at_T30 HR1.out x5_1 p188 q188
                have hw188_5 := hx188_5
                have hw188_4 := hx188_4
                have hw188_3 := hx188_3
                have hw188_2 := hx188_2
                have hw188_1 := hx188_1
                have hw188_0 := hx188_0
                cases e188
                replace hx188_0 := (HB.out.cell (World.block_lt_of_cell? w _ hx188_0)).trans hx188_0
                replace hx188_1 := (HB.out.cell (World.block_lt_of_cell? w _ hx188_1)).trans hx188_1
                replace hx188_2 := (HB.out.cell (World.block_lt_of_cell? w _ hx188_2)).trans hx188_2
                replace hx188_3 := (HB.out.cell (World.block_lt_of_cell? w _ hx188_3)).trans hx188_3
                replace hx188_4 := (HB.out.cell (World.block_lt_of_cell? w _ hx188_4)).trans hx188_4
                replace hx188_5 := (HB.out.cell (World.block_lt_of_cell? w _ hx188_5)).trans hx188_5
                replace p188 := eq_true p188
                replace q188 := eq_true q188
                refine start_ (n := 10) (S := fun w' => w'.cell? (ad187.add ((x5_1).toNat * 6)) = some (.int .i64 ((rd_T30 l0 x5_1).f0.f0)) ∧ w'.cell? ⟨(ad187.add ((x5_1).toNat * 6)).block, (ad187.add ((x5_1).toNat * 6)).off + 1, none⟩ = some (.int .i64 ((rd_T30 l0 x5_1).f0.f1)) ∧ w'.cell? ⟨(ad187.add ((x5_1).toNat * 6)).block, (ad187.add ((x5_1).toNat * 6)).off + 2, none⟩ = some (.int .i64 ((rd_T30 l0 x5_1).f1)) ∧ w'.cell? ⟨(ad187.add ((x5_1).toNat * 6)).block, (ad187.add ((x5_1).toNat * 6)).off + 3, none⟩ = some (.int .i64 ((rd_T30 l0 x5_1).f2)) ∧ w'.cell? ⟨(ad187.add ((x5_1).toNat * 6)).block, (ad187.add ((x5_1).toNat * 6)).off + 4, none⟩ = some (.string ((rd_T30 l0 x5_1).f3)) ∧ w'.cell? ⟨(ad187.add ((x5_1).toNat * 6)).block, (ad187.add ((x5_1).toNat * 6)).off + 5, none⟩ = some (.float .f64 bv187_5) ∧ w'.cell? (ad188.add ((x5_1).toNat * 6)) = some (.int .i64 ((rd_T30 l1 x5_1).f0.f0)) ∧ w'.cell? ⟨(ad188.add ((x5_1).toNat * 6)).block, (ad188.add ((x5_1).toNat * 6)).off + 1, none⟩ = some (.int .i64 ((rd_T30 l1 x5_1).f0.f1)) ∧ w'.cell? ⟨(ad188.add ((x5_1).toNat * 6)).block, (ad188.add ((x5_1).toNat * 6)).off + 2, none⟩ = some (.int .i64 ((rd_T30 l1 x5_1).f1)) ∧ w'.cell? ⟨(ad188.add ((x5_1).toNat * 6)).block, (ad188.add ((x5_1).toNat * 6)).off + 3, none⟩ = some (.int .i64 ((rd_T30 l1 x5_1).f2)) ∧ w'.cell? ⟨(ad188.add ((x5_1).toNat * 6)).block, (ad188.add ((x5_1).toNat * 6)).off + 4, none⟩ = some (.string ((rd_T30 l1 x5_1).f3)) ∧ w'.cell? ⟨(ad188.add ((x5_1).toNat * 6)).block, (ad188.add ((x5_1).toNat * 6)).off + 5, none⟩ = some (.float .f64 bv188_5)) (ds := []) #[false, false, false, false, false, false, false, false, false, false] (by kernel_rfl) rfl rfl ⟨((HB.out.cell (World.block_lt_of_cell? w _ hw187_0)).trans hw187_0), ((HB.out.cell (World.block_lt_of_cell? w _ hw187_1)).trans hw187_1), ((HB.out.cell (World.block_lt_of_cell? w _ hw187_2)).trans hw187_2), ((HB.out.cell (World.block_lt_of_cell? w _ hw187_3)).trans hw187_3), ((HB.out.cell (World.block_lt_of_cell? w _ hw187_4)).trans hw187_4), ((HB.out.cell (World.block_lt_of_cell? w _ hw187_5)).trans hw187_5), ((HB.out.cell (World.block_lt_of_cell? w _ hw188_0)).trans hw188_0), ((HB.out.cell (World.block_lt_of_cell? w _ hw188_1)).trans hw188_1), ((HB.out.cell (World.block_lt_of_cell? w _ hw188_2)).trans hw188_2), ((HB.out.cell (World.block_lt_of_cell? w _ hw188_3)).trans hw188_3), ((HB.out.cell (World.block_lt_of_cell? w _ hw188_4)).trans hw188_4), ((HB.out.cell (World.block_lt_of_cell? w _ hw188_5)).trans hw188_5)⟩ (fun hHeld => ?_); refine with_tabW bonsairef13_Same.tab6 bonsairef13_Same.bits6 (fun HT_ HW_ => ?_)
                generalize wr.drew = w9 at HB hx187_0 hx187_1 hx187_2 hx187_3 hx187_4 hx187_5 hx188_0 hx188_1 hx188_2 hx188_3 hx188_4 hx188_5 hHeld ⊢
                refine pure_ (i := 0) (N := some 17) (v := ?_) (a' := ?_) #[true, false, false, false, false, false, false, false, false, false] rfl rfl (any_of HT_.out (by kernel_rfl)) (fun _ _ _ h => h) (Or.inl ⟨by rfl, ?_⟩) ?_ ?_
                rotate_left
                · intro w'
                  go_simp
                  with_reducible rfl
                rotate_left
                · simp only [Act.put, List.setIfInBounds_toArray, List.set_cons_zero, List.set_cons_succ, i64_w, i32_w]
                  rfl
                refine pure_ (i := 1) (N := some 18) (v := ?_) (a' := ?_) #[true, true, false, false, false, false, false, false, false, false] rfl rfl (any_of HT_.out (by kernel_rfl)) (fun _ _ _ h => h) (Or.inl ⟨by rfl, ?_⟩) ?_ ?_
                rotate_left
                · intro w'
                  go_simp
                  with_reducible rfl
                rotate_left
                · simp only [Act.put, List.setIfInBounds_toArray, List.set_cons_zero, List.set_cons_succ, i64_w, i32_w]
                  rfl
                refine pure_ (i := 2) (N := some 19) (v := ?_) (a' := ?_) #[true, true, true, false, false, false, false, false, false, false] rfl rfl (any_of HT_.out (by kernel_rfl)) (fun _ _ _ h => h) (Or.inl ⟨by rfl, ?_⟩) ?_ ?_
                rotate_left
                · intro w'
                  go_simp
                  with_reducible rfl
                rotate_left
                · simp only [Act.put, List.setIfInBounds_toArray, List.set_cons_zero, List.set_cons_succ, i64_w, i32_w]
                  rfl
                refine pure_ (i := 4) (N := some 21) (v := ?_) (a' := ?_) #[true, true, true, false, true, false, false, false, false, false] rfl rfl (any_of HT_.out (by kernel_rfl)) (fun _ _ _ h => h) (Or.inl ⟨by rfl, ?_⟩) ?_ ?_
                rotate_left
                · intro w'
                  go_simp
                  with_reducible rfl
                rotate_left
                · simp only [Act.put, List.setIfInBounds_toArray, List.set_cons_zero, List.set_cons_succ, i64_w, i32_w]
                  rfl
                refine pure_ (i := 5) (N := some 22) (v := ?_) (a' := ?_) #[true, true, true, false, true, true, false, false, false, false] rfl rfl (any_of HT_.out (by kernel_rfl)) (fun _ _ _ h => h) (Or.inl ⟨by rfl, ?_⟩) ?_ ?_
                rotate_left
                · intro w'
                  go_simp
                  with_reducible rfl
                rotate_left
                · simp only [Act.put, List.setIfInBounds_toArray, List.set_cons_zero, List.set_cons_succ, i64_w, i32_w]
                  rfl
                refine pure_ (i := 6) (N := some 23) (v := ?_) (a' := ?_) #[true, true, true, false, true, true, true, false, false, false] rfl rfl (any_of HT_.out (by kernel_rfl)) (fun _ _ _ h => h) (Or.inl ⟨by rfl, ?_⟩) ?_ ?_
                rotate_left
                · intro w'
                  go_simp
                  with_reducible rfl
                rotate_left
                · simp only [Act.put, List.setIfInBounds_toArray, List.set_cons_zero, List.set_cons_succ, i64_w, i32_w]
                  rfl
                refine take_ (i := 3) (N := some 20) (v := ?_) (a' := ?_) #[true, true, true, true, true, true, true, false, false, false] rfl rfl (take_ofW HT_.out HW_.out (by kernel_rfl)) (fun _ _ _ h => h) (Or.inl ⟨by rfl, ?_⟩) hHeld ?_ ?_
                rotate_left
                · rintro w' ⟨s0, s1, s2, s3, s4, s5, s6, s7, s8, s9, s10, s11⟩
                  go_simp
                  with_reducible rfl
                rotate_left
                · simp only [Act.put, List.setIfInBounds_toArray, List.set_cons_zero, List.set_cons_succ, i64_w, i32_w]
                  rfl
                refine take_ (i := 7) (N := some 24) (v := ?_) (a' := ?_) #[true, true, true, true, true, true, true, true, false, false] rfl rfl (take_ofW HT_.out HW_.out (by kernel_rfl)) (fun _ _ _ h => h) (Or.inl ⟨by rfl, ?_⟩) hHeld ?_ ?_
                rotate_left
                · rintro w' ⟨s0, s1, s2, s3, s4, s5, s6, s7, s8, s9, s10, s11⟩
                  go_simp
                  with_reducible rfl
                rotate_left
                · simp only [Act.put, List.setIfInBounds_toArray, List.set_cons_zero, List.set_cons_succ, i64_w, i32_w]
                  rfl
                refine one_ (i := 8) (N := some 25) #[true, true, true, true, true, true, true, true, true, false] rfl rfl (one_of HT_.out (by kernel_rfl)) (by decide) (fun K hK => ?_)
                refine goes_ Try.func44 (by kernel_rfl) rfl #[.agg #[.int .i64 ((rd_T30 l0 x5_1).f0.f0), .int .i64 ((rd_T30 l0 x5_1).f0.f1), .int .i64 ((rd_T30 l0 x5_1).f1), .int .i64 ((rd_T30 l0 x5_1).f2), .string ((rd_T30 l0 x5_1).f3), .float .f64 bv187_5], .agg #[.int .i64 ((rd_T30 l1 x5_1).f0.f0), .int .i64 ((rd_T30 l1 x5_1).f0.f1), .int .i64 ((rd_T30 l1 x5_1).f1), .int .i64 ((rd_T30 l1 x5_1).f2), .string ((rd_T30 l1 x5_1).f3), .float .f64 bv188_5]] (by rfl) rfl rfl (by (try simp only [List.map_toArray, List.map_cons, List.map_nil]); first | done | rfl | (simp only [List.length_drop, List.length_take]; rfl)) ?_
                with_reducible refine (bonsairef13_Alike.calls ((rd_T30 l0 x5_1).f0.f0) ((rd_T30 l0 x5_1).f0.f1) ((rd_T30 l0 x5_1).f1) ((rd_T30 l0 x5_1).f2) ((rd_T30 l0 x5_1).f3) _ ((rd_T30 l0 x5_1).f4) ((rd_T30 l1 x5_1).f0.f0) ((rd_T30 l1 x5_1).f0.f1) ((rd_T30 l1 x5_1).f1) ((rd_T30 l1 x5_1).f2) ((rd_T30 l1 x5_1).f3) _ ((rd_T30 l1 x5_1).f4) true _ ?side1 ?side2 A7.out).mono ?_
                (case side1 => exact (by first | assumption | exact FB_lit _ _ rfl | exact FB_int _ | simpa using (by assumption)))
                (case side2 => exact (by first | assumption | exact FB_lit _ _ rfl | exact FB_int _ | simpa using (by assumption)))
                rintro e w10 ⟨rfl, hb⟩
                refine ⟨_, rfl, ?_⟩
                have n0_ := Aside0.mk (below_step (by repeat (first | (with_reducible first | exact HB.out | apply below_alloc | apply pw_below_drewN | apply below_drew1) | exact HB.out)) hb)
                clear HB
                have HB := n0_
                clear n0_
                (try clear hb)
                (try clear hb2)
                (try clear hk)
                (try clear hi)
                refine hK.out _ _ ⟨((HB.out.cell (World.block_lt_of_cell? w _ hw187_0)).trans hw187_0), ((HB.out.cell (World.block_lt_of_cell? w _ hw187_1)).trans hw187_1), ((HB.out.cell (World.block_lt_of_cell? w _ hw187_2)).trans hw187_2), ((HB.out.cell (World.block_lt_of_cell? w _ hw187_3)).trans hw187_3), ((HB.out.cell (World.block_lt_of_cell? w _ hw187_4)).trans hw187_4), ((HB.out.cell (World.block_lt_of_cell? w _ hw187_5)).trans hw187_5), ((HB.out.cell (World.block_lt_of_cell? w _ hw188_0)).trans hw188_0), ((HB.out.cell (World.block_lt_of_cell? w _ hw188_1)).trans hw188_1), ((HB.out.cell (World.block_lt_of_cell? w _ hw188_2)).trans hw188_2), ((HB.out.cell (World.block_lt_of_cell? w _ hw188_3)).trans hw188_3), ((HB.out.cell (World.block_lt_of_cell? w _ hw188_4)).trans hw188_4), ((HB.out.cell (World.block_lt_of_cell? w _ hw188_5)).trans hw188_5)⟩ (fun hHeld => ?_)
                clear hK K
                refine norm_ (a' := ?_) ?_ ?_
                rotate_left
                · show Act.put _ (some 25) _ = _
                  simp only [Act.put, List.setIfInBounds_toArray, List.set_cons_zero, List.set_cons_succ, i64_w, i32_w]
                  rfl
                refine pure_ (i := 9) (N := some 26) (v := ?_) (a' := ?_) #[true, true, true, true, true, true, true, true, true, true] rfl rfl (any_of HT_.out (by kernel_rfl)) (fun _ _ _ h => h) (Or.inl ⟨by rfl, ?_⟩) ?_ ?_
                rotate_left
                · intro w'
                  go_simp
                  with_reducible rfl
                rotate_left
                · simp only [Act.put, List.setIfInBounds_toArray, List.set_cons_zero, List.set_cons_succ, i64_w, i32_w]
                  rfl
                refine done_ (done_of HT_.out (by kernel_rfl)) ?_
                try go_wp2
                go_roundg k1
                case measure => have := HK1.out; omega
                case rel => exact ⟨(wrap64 (x5_1 + 1)), (by first | rfl | (simp; done) | (simp [*]; done)), H', ⟨by have := HK1.out; omega⟩, ⟨by repeat (first | (with_reducible first | exact HB.out | apply below_alloc | apply pw_below_drewN | apply below_drew1) | exact HB.out)⟩⟩
              · replace c8 := Bool.eq_false_iff.mpr c8
                subst c8
                have H1 : (some false) = some r := by rw [if_neg (show ¬ (false = true) by decide)] at H; exact H
                clear H
                have H := H1
                clear H1
                obtain rfl := Option.some.inj H
                try go_wp2
                have n0_ := Aside0.mk (below_drew1 HB.out)
                clear HB
                have HB := n0_
                clear n0_
                have p187 : 0 ≤ (x5_1 : Int) := of_decide_eq_true (by first | (with_reducible assumption) | assumption)
                have q187 : x5_1 < (l0.length : Int) := of_decide_eq_true (by first | (with_reducible assumption) | assumption)
                obtain ⟨ad187, bv187_5, e187, hx187_0, hx187_1, hx187_2, hx187_3, hx187_4, hx187_5, bq187_5⟩ := at_T30 HR0.out x5_1 p187 q187
                have hw187_5 := hx187_5
                have hw187_4 := hx187_4
                have hw187_3 := hx187_3
                have hw187_2 := hx187_2
                have hw187_1 := hx187_1
                have hw187_0 := hx187_0
                cases e187
                replace hx187_0 := (HB.out.cell (World.block_lt_of_cell? w _ hx187_0)).trans hx187_0
                replace hx187_1 := (HB.out.cell (World.block_lt_of_cell? w _ hx187_1)).trans hx187_1
                replace hx187_2 := (HB.out.cell (World.block_lt_of_cell? w _ hx187_2)).trans hx187_2
                replace hx187_3 := (HB.out.cell (World.block_lt_of_cell? w _ hx187_3)).trans hx187_3
                replace hx187_4 := (HB.out.cell (World.block_lt_of_cell? w _ hx187_4)).trans hx187_4
                replace hx187_5 := (HB.out.cell (World.block_lt_of_cell? w _ hx187_5)).trans hx187_5
                replace p187 := eq_true p187
                replace q187 := eq_true q187
                have p188 : 0 ≤ (x5_1 : Int) := of_decide_eq_true (by first | (with_reducible assumption) | assumption)
                have q188 : x5_1 < (l1.length : Int) := of_decide_eq_true (by first | (with_reducible assumption) | assumption)
                obtain ⟨ad188, bv188_5, e188, hx188_0, hx188_1, hx188_2, hx188_3, hx188_4, hx188_5, bq188_5⟩ := at_T30 HR1.out x5_1 p188 q188
                have hw188_5 := hx188_5
                have hw188_4 := hx188_4
                have hw188_3 := hx188_3
                have hw188_2 := hx188_2
                have hw188_1 := hx188_1
                have hw188_0 := hx188_0
                cases e188
                replace hx188_0 := (HB.out.cell (World.block_lt_of_cell? w _ hx188_0)).trans hx188_0
                replace hx188_1 := (HB.out.cell (World.block_lt_of_cell? w _ hx188_1)).trans hx188_1
                replace hx188_2 := (HB.out.cell (World.block_lt_of_cell? w _ hx188_2)).trans hx188_2
                replace hx188_3 := (HB.out.cell (World.block_lt_of_cell? w _ hx188_3)).trans hx188_3
                replace hx188_4 := (HB.out.cell (World.block_lt_of_cell? w _ hx188_4)).trans hx188_4
                replace hx188_5 := (HB.out.cell (World.block_lt_of_cell? w _ hx188_5)).trans hx188_5
                replace p188 := eq_true p188
                replace q188 := eq_true q188
                refine start_ (n := 10) (S := fun w' => w'.cell? (ad187.add ((x5_1).toNat * 6)) = some (.int .i64 ((rd_T30 l0 x5_1).f0.f0)) ∧ w'.cell? ⟨(ad187.add ((x5_1).toNat * 6)).block, (ad187.add ((x5_1).toNat * 6)).off + 1, none⟩ = some (.int .i64 ((rd_T30 l0 x5_1).f0.f1)) ∧ w'.cell? ⟨(ad187.add ((x5_1).toNat * 6)).block, (ad187.add ((x5_1).toNat * 6)).off + 2, none⟩ = some (.int .i64 ((rd_T30 l0 x5_1).f1)) ∧ w'.cell? ⟨(ad187.add ((x5_1).toNat * 6)).block, (ad187.add ((x5_1).toNat * 6)).off + 3, none⟩ = some (.int .i64 ((rd_T30 l0 x5_1).f2)) ∧ w'.cell? ⟨(ad187.add ((x5_1).toNat * 6)).block, (ad187.add ((x5_1).toNat * 6)).off + 4, none⟩ = some (.string ((rd_T30 l0 x5_1).f3)) ∧ w'.cell? ⟨(ad187.add ((x5_1).toNat * 6)).block, (ad187.add ((x5_1).toNat * 6)).off + 5, none⟩ = some (.float .f64 bv187_5) ∧ w'.cell? (ad188.add ((x5_1).toNat * 6)) = some (.int .i64 ((rd_T30 l1 x5_1).f0.f0)) ∧ w'.cell? ⟨(ad188.add ((x5_1).toNat * 6)).block, (ad188.add ((x5_1).toNat * 6)).off + 1, none⟩ = some (.int .i64 ((rd_T30 l1 x5_1).f0.f1)) ∧ w'.cell? ⟨(ad188.add ((x5_1).toNat * 6)).block, (ad188.add ((x5_1).toNat * 6)).off + 2, none⟩ = some (.int .i64 ((rd_T30 l1 x5_1).f1)) ∧ w'.cell? ⟨(ad188.add ((x5_1).toNat * 6)).block, (ad188.add ((x5_1).toNat * 6)).off + 3, none⟩ = some (.int .i64 ((rd_T30 l1 x5_1).f2)) ∧ w'.cell? ⟨(ad188.add ((x5_1).toNat * 6)).block, (ad188.add ((x5_1).toNat * 6)).off + 4, none⟩ = some (.string ((rd_T30 l1 x5_1).f3)) ∧ w'.cell? ⟨(ad188.add ((x5_1).toNat * 6)).block, (ad188.add ((x5_1).toNat * 6)).off + 5, none⟩ = some (.float .f64 bv188_5)) (ds := []) #[false, false, false, false, false, false, false, false, false, false] (by kernel_rfl) rfl rfl ⟨((HB.out.cell (World.block_lt_of_cell? w _ hw187_0)).trans hw187_0), ((HB.out.cell (World.block_lt_of_cell? w _ hw187_1)).trans hw187_1), ((HB.out.cell (World.block_lt_of_cell? w _ hw187_2)).trans hw187_2), ((HB.out.cell (World.block_lt_of_cell? w _ hw187_3)).trans hw187_3), ((HB.out.cell (World.block_lt_of_cell? w _ hw187_4)).trans hw187_4), ((HB.out.cell (World.block_lt_of_cell? w _ hw187_5)).trans hw187_5), ((HB.out.cell (World.block_lt_of_cell? w _ hw188_0)).trans hw188_0), ((HB.out.cell (World.block_lt_of_cell? w _ hw188_1)).trans hw188_1), ((HB.out.cell (World.block_lt_of_cell? w _ hw188_2)).trans hw188_2), ((HB.out.cell (World.block_lt_of_cell? w _ hw188_3)).trans hw188_3), ((HB.out.cell (World.block_lt_of_cell? w _ hw188_4)).trans hw188_4), ((HB.out.cell (World.block_lt_of_cell? w _ hw188_5)).trans hw188_5)⟩ (fun hHeld => ?_); refine with_tabW bonsairef13_Same.tab6 bonsairef13_Same.bits6 (fun HT_ HW_ => ?_)
                generalize wr.drew = w11 at HB hx187_0 hx187_1 hx187_2 hx187_3 hx187_4 hx187_5 hx188_0 hx188_1 hx188_2 hx188_3 hx188_4 hx188_5 hHeld ⊢
                refine pure_ (i := 0) (N := some 17) (v := ?_) (a' := ?_) #[true, false, false, false, false, false, false, false, false, false] rfl rfl (any_of HT_.out (by kernel_rfl)) (fun _ _ _ h => h) (Or.inl ⟨by rfl, ?_⟩) ?_ ?_
                rotate_left
                · intro w'
                  go_simp
                  with_reducible rfl
                rotate_left
                · simp only [Act.put, List.setIfInBounds_toArray, List.set_cons_zero, List.set_cons_succ, i64_w, i32_w]
                  rfl
                refine pure_ (i := 1) (N := some 18) (v := ?_) (a' := ?_) #[true, true, false, false, false, false, false, false, false, false] rfl rfl (any_of HT_.out (by kernel_rfl)) (fun _ _ _ h => h) (Or.inl ⟨by rfl, ?_⟩) ?_ ?_
                rotate_left
                · intro w'
                  go_simp
                  with_reducible rfl
                rotate_left
                · simp only [Act.put, List.setIfInBounds_toArray, List.set_cons_zero, List.set_cons_succ, i64_w, i32_w]
                  rfl
                refine pure_ (i := 2) (N := some 19) (v := ?_) (a' := ?_) #[true, true, true, false, false, false, false, false, false, false] rfl rfl (any_of HT_.out (by kernel_rfl)) (fun _ _ _ h => h) (Or.inl ⟨by rfl, ?_⟩) ?_ ?_
                rotate_left
                · intro w'
                  go_simp
                  with_reducible rfl
                rotate_left
                · simp only [Act.put, List.setIfInBounds_toArray, List.set_cons_zero, List.set_cons_succ, i64_w, i32_w]
                  rfl
                refine pure_ (i := 4) (N := some 21) (v := ?_) (a' := ?_) #[true, true, true, false, true, false, false, false, false, false] rfl rfl (any_of HT_.out (by kernel_rfl)) (fun _ _ _ h => h) (Or.inl ⟨by rfl, ?_⟩) ?_ ?_
                rotate_left
                · intro w'
                  go_simp
                  with_reducible rfl
                rotate_left
                · simp only [Act.put, List.setIfInBounds_toArray, List.set_cons_zero, List.set_cons_succ, i64_w, i32_w]
                  rfl
                refine pure_ (i := 5) (N := some 22) (v := ?_) (a' := ?_) #[true, true, true, false, true, true, false, false, false, false] rfl rfl (any_of HT_.out (by kernel_rfl)) (fun _ _ _ h => h) (Or.inl ⟨by rfl, ?_⟩) ?_ ?_
                rotate_left
                · intro w'
                  go_simp
                  with_reducible rfl
                rotate_left
                · simp only [Act.put, List.setIfInBounds_toArray, List.set_cons_zero, List.set_cons_succ, i64_w, i32_w]
                  rfl
                refine pure_ (i := 6) (N := some 23) (v := ?_) (a' := ?_) #[true, true, true, false, true, true, true, false, false, false] rfl rfl (any_of HT_.out (by kernel_rfl)) (fun _ _ _ h => h) (Or.inl ⟨by rfl, ?_⟩) ?_ ?_
                rotate_left
                · intro w'
                  go_simp
                  with_reducible rfl
                rotate_left
                · simp only [Act.put, List.setIfInBounds_toArray, List.set_cons_zero, List.set_cons_succ, i64_w, i32_w]
                  rfl
                refine take_ (i := 3) (N := some 20) (v := ?_) (a' := ?_) #[true, true, true, true, true, true, true, false, false, false] rfl rfl (take_ofW HT_.out HW_.out (by kernel_rfl)) (fun _ _ _ h => h) (Or.inl ⟨by rfl, ?_⟩) hHeld ?_ ?_
                rotate_left
                · rintro w' ⟨s0, s1, s2, s3, s4, s5, s6, s7, s8, s9, s10, s11⟩
                  go_simp
                  with_reducible rfl
                rotate_left
                · simp only [Act.put, List.setIfInBounds_toArray, List.set_cons_zero, List.set_cons_succ, i64_w, i32_w]
                  rfl
                refine take_ (i := 7) (N := some 24) (v := ?_) (a' := ?_) #[true, true, true, true, true, true, true, true, false, false] rfl rfl (take_ofW HT_.out HW_.out (by kernel_rfl)) (fun _ _ _ h => h) (Or.inl ⟨by rfl, ?_⟩) hHeld ?_ ?_
                rotate_left
                · rintro w' ⟨s0, s1, s2, s3, s4, s5, s6, s7, s8, s9, s10, s11⟩
                  go_simp
                  with_reducible rfl
                rotate_left
                · simp only [Act.put, List.setIfInBounds_toArray, List.set_cons_zero, List.set_cons_succ, i64_w, i32_w]
                  rfl
                refine one_ (i := 8) (N := some 25) #[true, true, true, true, true, true, true, true, true, false] rfl rfl (one_of HT_.out (by kernel_rfl)) (by decide) (fun K hK => ?_)
                refine goes_ Try.func44 (by kernel_rfl) rfl #[.agg #[.int .i64 ((rd_T30 l0 x5_1).f0.f0), .int .i64 ((rd_T30 l0 x5_1).f0.f1), .int .i64 ((rd_T30 l0 x5_1).f1), .int .i64 ((rd_T30 l0 x5_1).f2), .string ((rd_T30 l0 x5_1).f3), .float .f64 bv187_5], .agg #[.int .i64 ((rd_T30 l1 x5_1).f0.f0), .int .i64 ((rd_T30 l1 x5_1).f0.f1), .int .i64 ((rd_T30 l1 x5_1).f1), .int .i64 ((rd_T30 l1 x5_1).f2), .string ((rd_T30 l1 x5_1).f3), .float .f64 bv188_5]] (by rfl) rfl rfl (by (try simp only [List.map_toArray, List.map_cons, List.map_nil]); first | done | rfl | (simp only [List.length_drop, List.length_take]; rfl)) ?_
                with_reducible refine (bonsairef13_Alike.calls ((rd_T30 l0 x5_1).f0.f0) ((rd_T30 l0 x5_1).f0.f1) ((rd_T30 l0 x5_1).f1) ((rd_T30 l0 x5_1).f2) ((rd_T30 l0 x5_1).f3) _ ((rd_T30 l0 x5_1).f4) ((rd_T30 l1 x5_1).f0.f0) ((rd_T30 l1 x5_1).f0.f1) ((rd_T30 l1 x5_1).f1) ((rd_T30 l1 x5_1).f2) ((rd_T30 l1 x5_1).f3) _ ((rd_T30 l1 x5_1).f4) false _ ?side1 ?side2 A7.out).mono ?_
                (case side1 => exact (by first | assumption | exact FB_lit _ _ rfl | exact FB_int _ | simpa using (by assumption)))
                (case side2 => exact (by first | assumption | exact FB_lit _ _ rfl | exact FB_int _ | simpa using (by assumption)))
                rintro e w12 ⟨rfl, hb⟩
                refine ⟨_, rfl, ?_⟩
                have n0_ := Aside0.mk (below_step (by repeat (first | (with_reducible first | exact HB.out | apply below_alloc | apply pw_below_drewN | apply below_drew1) | exact HB.out)) hb)
                clear HB
                have HB := n0_
                clear n0_
                (try clear hb)
                (try clear hb2)
                (try clear hk)
                (try clear hi)
                refine hK.out _ _ ⟨((HB.out.cell (World.block_lt_of_cell? w _ hw187_0)).trans hw187_0), ((HB.out.cell (World.block_lt_of_cell? w _ hw187_1)).trans hw187_1), ((HB.out.cell (World.block_lt_of_cell? w _ hw187_2)).trans hw187_2), ((HB.out.cell (World.block_lt_of_cell? w _ hw187_3)).trans hw187_3), ((HB.out.cell (World.block_lt_of_cell? w _ hw187_4)).trans hw187_4), ((HB.out.cell (World.block_lt_of_cell? w _ hw187_5)).trans hw187_5), ((HB.out.cell (World.block_lt_of_cell? w _ hw188_0)).trans hw188_0), ((HB.out.cell (World.block_lt_of_cell? w _ hw188_1)).trans hw188_1), ((HB.out.cell (World.block_lt_of_cell? w _ hw188_2)).trans hw188_2), ((HB.out.cell (World.block_lt_of_cell? w _ hw188_3)).trans hw188_3), ((HB.out.cell (World.block_lt_of_cell? w _ hw188_4)).trans hw188_4), ((HB.out.cell (World.block_lt_of_cell? w _ hw188_5)).trans hw188_5)⟩ (fun hHeld => ?_)
                clear hK K
                refine norm_ (a' := ?_) ?_ ?_
                rotate_left
                · show Act.put _ (some 25) _ = _
                  simp only [Act.put, List.setIfInBounds_toArray, List.set_cons_zero, List.set_cons_succ, i64_w, i32_w]
                  rfl
                refine pure_ (i := 9) (N := some 26) (v := ?_) (a' := ?_) #[true, true, true, true, true, true, true, true, true, true] rfl rfl (any_of HT_.out (by kernel_rfl)) (fun _ _ _ h => h) (Or.inl ⟨by rfl, ?_⟩) ?_ ?_
                rotate_left
                · intro w'
                  go_simp
                  with_reducible rfl
                rotate_left
                · simp only [Act.put, List.setIfInBounds_toArray, List.set_cons_zero, List.set_cons_succ, i64_w, i32_w]
                  rfl
                refine done_ (done_of HT_.out (by kernel_rfl)) ?_
                try go_wp2
                go_ret
                exact ⟨by first | rfl | (simp [errW_none, errW_some] <;> rfl) | (simp [*, errW_none, errW_some] <;> rfl), by repeat (first | (with_reducible first | exact HB.out | apply below_alloc | apply pw_below_drewN | apply below_drew1) | exact HB.out)⟩
            · rw [if_neg c6] at H
              exact absurd H (by simp)
          · rw [if_neg c5] at H
            exact absurd H (by simp)
        · rw [if_neg c4] at H
          have c4b0 : decide (x5_1 < (l0.length : Int)) = false := decide_eq_false c4
          clear c4
          obtain rfl := Option.some.inj H
          go_wp2
          go_ret
          exact ⟨by first | rfl | (simp [errW_none, errW_some] <;> rfl) | (simp [*, errW_none, errW_some] <;> rfl), by repeat (first | (with_reducible first | exact HB.out | apply below_alloc | apply pw_below_drewN | apply below_drew1) | exact HB.out)⟩
  · rw [if_neg c3] at H
    have c3b0 : ((l0.length : Int) == (l1.length : Int)) = false := beq_eq_false_iff_ne.mpr c3
    have c3b1 : ((l0.length : Int) != (l1.length : Int)) = true := bne_iff_ne.mpr c3
    have c3b2 : (l0.length == l1.length) = false := by first | simpa using c3 | (simp at c3 ⊢; omega)
    obtain rfl := Option.some.inj H
    go_enter Try.func15, Try.ntmps15
    go_wp2
    go_ret
    exact ⟨by first | rfl | (simp [errW_none, errW_some] <;> rfl) | (simp [*, errW_none, errW_some] <;> rfl), by repeat (first | (with_reducible first | exact HB.out | apply below_alloc | apply pw_below_drewN | apply below_drew1) | exact HB.out)⟩
end Go.Proofs.Ytfgnjndfnijjoaa.Print
end
section
namespace Go.Proofs.Ytfgnjndfnijjoaa.Print
open Go.RowKit Go.Proofs.YtfgnjndfnijjoaaW.PrintWords Go.Proofs.YtfgnjndfnijjoaaW.PrintLast Go.Proofs.YtfgnjndfnijjoaaW.PrintMore
attribute [local go_sem] max2_int min2_int max_two min_two max_three min_three max_four min_four
attribute [local go_sem] run_store_float
set_option linter.unusedVariables false
set_option linter.unusedSimpArgs false
def bonsailaw21_live.f (k : Nat)  : Option (Bool) := (some (([(⟨(⟨5, 2⟩ : S27), 0, 300, (⟨#[97]⟩ : ByteArray), (4607182418800017408 : Int)⟩ : S30)] : List (S30)) : List (S30))).bind fun y190 => ((rows_Encode.f k y190).bind fun bt193 => ((rows_Decode.f k bt193.1).bind fun bt195 => ((rows_Decode.f k (⟨#[66, 78, 83, 73, 2, 0]⟩ : ByteArray)).bind fun bt199 => (if bt193.1.size + 1 ≤ 9223372036854775807 then ((rows_Decode.f k (bt193.1 ++ (⟨#[120]⟩ : ByteArray))).bind fun bt203 => ((rows_Encode.f k (([(⟨(⟨0, 0⟩ : S27), 0, 0, (⟨#[]⟩ : ByteArray), (0 : Int)⟩ : S30)] : List (S30)))).bind fun bt210 => (if 0 < (y190.length : Int) then ((rows_One.f k ((rd_T30 y190 0).f0.f0) ((rd_T30 y190 0).f0.f1) ((rd_T30 y190 0).f1) ((rd_T30 y190 0).f2) ((rd_T30 y190 0).f3) ((rd_T30 y190 0).f4)).bind fun t213 => (if 6 + t213.size ≤ 9223372036854775807 then ((rows_One.f k ((rd_T30 y190 0).f0.f0) ((rd_T30 y190 0).f0.f1) ((rd_T30 y190 0).f1) ((rd_T30 y190 0).f2) ((rd_T30 y190 0).f3) ((rd_T30 y190 0).f4)).bind fun t215 => (if ((⟨#[66, 78, 83, 73, 1, 2]⟩ : ByteArray) ++ t213).size + t215.size ≤ 9223372036854775807 then ((rows_Decode.f k (((⟨#[66, 78, 83, 73, 1, 2]⟩ : ByteArray) ++ t213) ++ t215)).bind fun bt216 => ((rows_Decode.f k (⟨#[66, 78, 83, 73, 1, 0]⟩ : ByteArray)).bind fun bt220 => ((rows_Decode.f k (⟨#[66, 78, 83, 88]⟩ : ByteArray)).bind fun bt224 => (if bt193.2 = 0 then (if bt193.1.toList = ([66, 78, 83, 73, 1, 1, 5, 2, 0, 172, 2, 1, 97, 0, 0, 0, 0, 0, 0, 240, 63] : List UInt8) then (if bt195.2 = 0 then ((bonsairef13_Same.f k bt195.1 y190).bind fun t228 => (if t228 = true then (if bt199.2 = 8 then (if bt203.2 = 5 then (if bt210.2 = 1 then (if bt216.2 = 12 then (if (bt220.1.length : Int) = 0 then (if bt220.2 = 0 then (some (bt224.2 == 7)) else (none)) else (none)) else (none)) else (none)) else (none)) else (none)) else (none))) else (none)) else (none)) else (none))))) else (none))) else (none))) else (none)))) else (none)))))
theorem bonsailaw21_live.mono : ∀ k, LeO (bonsailaw21_live.f k ) (bonsailaw21_live.f (k + 1) ) := by
  intro  k
  unfold bonsailaw21_live.f
  repeat' first
      | (with_reducible exact bonsairef13_Same.mono _ _ _)
      | (with_reducible exact rows_Decode.mono _ _)
      | (with_reducible exact rows_Encode.mono _ _)
      | (with_reducible exact rows_One.mono _ _ _ _ _ _ _)
      | (with_reducible exact LeO.refl _)
      | (with_reducible exact LeO.none _)
      | (with_reducible refine LeO.ite ?_ ?_)
      | (with_reducible refine LeO.bind ?_ (fun _ => ?_))
      | exact bonsairef13_Same.mono _ _ _
      | exact rows_Decode.mono _ _
      | exact rows_Encode.mono _ _
      | exact rows_One.mono _ _ _ _ _ _ _
      | exact LeO.none _
      | refine LeO.ite ?_ ?_
      | refine LeO.bind ?_ (fun _ => ?_)
def bonsailaw21_live.T7 : Bool × List (List Nat × List Nat) := (true, [([], []), ([0], [0]), ([1], [1]), ([2], [2]), ([3], [3]), ([], []), ([5], [5]), ([6], [6]), ([7, 3], [7]), ([4, 8], [4, 8]), ([9, 8], [9]), ([10], [10]), ([11], [11]), ([11], [11]), ([12, 10, 0, 1, 2, 3, 4, 5, 6, 7, 8, 9, 10, 11, 12], [12]), ([13, 14, 0, 1, 2, 3, 4, 5, 6, 7, 8, 9, 10, 11, 12, 13, 14], [13])])
def bonsailaw21_live.B7 : List Nat := [0, 1, 3, 7, 15, 0, 32, 96, 239, 511, 1023, 2047, 4095, 4095, 8191, 32767]
theorem bonsailaw21_live.tab7 : rtab .any (opsOf Try.f8 7) = bonsailaw21_live.T7 := by kernel_rfl
theorem bonsailaw21_live.bits7 : waitsOk bonsailaw21_live.T7.2 bonsailaw21_live.B7 = true := by kernel_rfl
set_option maxHeartbeats 8000000 in
set_option maxRecDepth 100000 in
theorem bonsailaw21_live.calls (k : Nat)  (r : Bool) (w : World) (h : bonsailaw21_live.f k  = some r) :
    Calls Try.prog 8 #[] w fun e w' => e = .returned (.bool r) ∧ Below w.heap.size w w' := by
  have hu27 := Try.underlying27
  have hu30 := Try.underlying30
  have HB := Aside0.mk (Below.refl w.heap.size w)
  have H : ((some (([(⟨(⟨5, 2⟩ : S27), 0, 300, (⟨#[97]⟩ : ByteArray), (4607182418800017408 : Int)⟩ : S30)] : List (S30)) : List (S30))).bind fun y190 => ((rows_Encode.f k y190).bind fun bt193 => ((rows_Decode.f k bt193.1).bind fun bt195 => ((rows_Decode.f k (⟨#[66, 78, 83, 73, 2, 0]⟩ : ByteArray)).bind fun bt199 => (if bt193.1.size + 1 ≤ 9223372036854775807 then ((rows_Decode.f k (bt193.1 ++ (⟨#[120]⟩ : ByteArray))).bind fun bt203 => ((rows_Encode.f k (([(⟨(⟨0, 0⟩ : S27), 0, 0, (⟨#[]⟩ : ByteArray), (0 : Int)⟩ : S30)] : List (S30)))).bind fun bt210 => (if 0 < (y190.length : Int) then ((rows_One.f k ((rd_T30 y190 0).f0.f0) ((rd_T30 y190 0).f0.f1) ((rd_T30 y190 0).f1) ((rd_T30 y190 0).f2) ((rd_T30 y190 0).f3) ((rd_T30 y190 0).f4)).bind fun t213 => (if 6 + t213.size ≤ 9223372036854775807 then ((rows_One.f k ((rd_T30 y190 0).f0.f0) ((rd_T30 y190 0).f0.f1) ((rd_T30 y190 0).f1) ((rd_T30 y190 0).f2) ((rd_T30 y190 0).f3) ((rd_T30 y190 0).f4)).bind fun t215 => (if ((⟨#[66, 78, 83, 73, 1, 2]⟩ : ByteArray) ++ t213).size + t215.size ≤ 9223372036854775807 then ((rows_Decode.f k (((⟨#[66, 78, 83, 73, 1, 2]⟩ : ByteArray) ++ t213) ++ t215)).bind fun bt216 => ((rows_Decode.f k (⟨#[66, 78, 83, 73, 1, 0]⟩ : ByteArray)).bind fun bt220 => ((rows_Decode.f k (⟨#[66, 78, 83, 88]⟩ : ByteArray)).bind fun bt224 => (if bt193.2 = 0 then (if bt193.1.toList = ([66, 78, 83, 73, 1, 1, 5, 2, 0, 172, 2, 1, 97, 0, 0, 0, 0, 0, 0, 240, 63] : List UInt8) then (if bt195.2 = 0 then ((bonsairef13_Same.f k bt195.1 y190).bind fun t228 => (if t228 = true then (if bt199.2 = 8 then (if bt203.2 = 5 then (if bt210.2 = 1 then (if bt216.2 = 12 then (if (bt220.1.length : Int) = 0 then (if bt220.2 = 0 then (some (bt224.2 == 7)) else (none)) else (none)) else (none)) else (none)) else (none)) else (none)) else (none))) else (none)) else (none)) else (none))))) else (none))) else (none))) else (none)))) else (none)))))) = some r := h
  clear h
  obtain ⟨y190, hy190⟩ : ∃ y_ : List (S30), y_ = (([(⟨(⟨5, 2⟩ : S27), 0, 300, (⟨#[97]⟩ : ByteArray), (4607182418800017408 : Int)⟩ : S30)] : List (S30))) := ⟨_, rfl⟩
  replace H : ((rows_Encode.f k y190).bind fun bt193 => ((rows_Decode.f k bt193.1).bind fun bt195 => ((rows_Decode.f k (⟨#[66, 78, 83, 73, 2, 0]⟩ : ByteArray)).bind fun bt199 => (if bt193.1.size + 1 ≤ 9223372036854775807 then ((rows_Decode.f k (bt193.1 ++ (⟨#[120]⟩ : ByteArray))).bind fun bt203 => ((rows_Encode.f k (([(⟨(⟨0, 0⟩ : S27), 0, 0, (⟨#[]⟩ : ByteArray), (0 : Int)⟩ : S30)] : List (S30)))).bind fun bt210 => (if 0 < (y190.length : Int) then ((rows_One.f k ((rd_T30 y190 0).f0.f0) ((rd_T30 y190 0).f0.f1) ((rd_T30 y190 0).f1) ((rd_T30 y190 0).f2) ((rd_T30 y190 0).f3) ((rd_T30 y190 0).f4)).bind fun t213 => (if 6 + t213.size ≤ 9223372036854775807 then ((rows_One.f k ((rd_T30 y190 0).f0.f0) ((rd_T30 y190 0).f0.f1) ((rd_T30 y190 0).f1) ((rd_T30 y190 0).f2) ((rd_T30 y190 0).f3) ((rd_T30 y190 0).f4)).bind fun t215 => (if ((⟨#[66, 78, 83, 73, 1, 2]⟩ : ByteArray) ++ t213).size + t215.size ≤ 9223372036854775807 then ((rows_Decode.f k (((⟨#[66, 78, 83, 73, 1, 2]⟩ : ByteArray) ++ t213) ++ t215)).bind fun bt216 => ((rows_Decode.f k (⟨#[66, 78, 83, 73, 1, 0]⟩ : ByteArray)).bind fun bt220 => ((rows_Decode.f k (⟨#[66, 78, 83, 88]⟩ : ByteArray)).bind fun bt224 => (if bt193.2 = 0 then (if bt193.1.toList = ([66, 78, 83, 73, 1, 1, 5, 2, 0, 172, 2, 1, 97, 0, 0, 0, 0, 0, 0, 240, 63] : List UInt8) then (if bt195.2 = 0 then ((bonsairef13_Same.f k bt195.1 y190).bind fun t228 => (if t228 = true then (if bt199.2 = 8 then (if bt203.2 = 5 then (if bt210.2 = 1 then (if bt216.2 = 12 then (if (bt220.1.length : Int) = 0 then (if bt220.2 = 0 then (some (bt224.2 == 7)) else (none)) else (none)) else (none)) else (none)) else (none)) else (none)) else (none))) else (none)) else (none)) else (none))))) else (none))) else (none))) else (none)))) else (none))))) = some r := by first | (rw [hy190]; with_reducible exact H) | (have H2_ := (Option.bind_some _ _).symm.trans H; rw [hy190]; with_reducible exact H2_) | (have H2_ := (Option.bind_some _ _).symm.trans H; with_reducible exact H2_) | with_reducible exact H | (rw [hy190]; exact H) | exact H
  have Ny190 := Aside0.mk hy190
  clear hy190
  replace H := Option.bind_eq_some_iff.mp H
  obtain ⟨⟨t193, t194⟩, A10, H⟩ := H
  replace H : ((rows_Decode.f k t193).bind fun bt195 => ((rows_Decode.f k (⟨#[66, 78, 83, 73, 2, 0]⟩ : ByteArray)).bind fun bt199 => (if t193.size + 1 ≤ 9223372036854775807 then ((rows_Decode.f k (t193 ++ (⟨#[120]⟩ : ByteArray))).bind fun bt203 => ((rows_Encode.f k (([(⟨(⟨0, 0⟩ : S27), 0, 0, (⟨#[]⟩ : ByteArray), (0 : Int)⟩ : S30)] : List (S30)))).bind fun bt210 => (if 0 < (y190.length : Int) then ((rows_One.f k ((rd_T30 y190 0).f0.f0) ((rd_T30 y190 0).f0.f1) ((rd_T30 y190 0).f1) ((rd_T30 y190 0).f2) ((rd_T30 y190 0).f3) ((rd_T30 y190 0).f4)).bind fun t213 => (if 6 + t213.size ≤ 9223372036854775807 then ((rows_One.f k ((rd_T30 y190 0).f0.f0) ((rd_T30 y190 0).f0.f1) ((rd_T30 y190 0).f1) ((rd_T30 y190 0).f2) ((rd_T30 y190 0).f3) ((rd_T30 y190 0).f4)).bind fun t215 => (if ((⟨#[66, 78, 83, 73, 1, 2]⟩ : ByteArray) ++ t213).size + t215.size ≤ 9223372036854775807 then ((rows_Decode.f k (((⟨#[66, 78, 83, 73, 1, 2]⟩ : ByteArray) ++ t213) ++ t215)).bind fun bt216 => ((rows_Decode.f k (⟨#[66, 78, 83, 73, 1, 0]⟩ : ByteArray)).bind fun bt220 => ((rows_Decode.f k (⟨#[66, 78, 83, 88]⟩ : ByteArray)).bind fun bt224 => (if t194 = 0 then (if t193.toList = ([66, 78, 83, 73, 1, 1, 5, 2, 0, 172, 2, 1, 97, 0, 0, 0, 0, 0, 0, 240, 63] : List UInt8) then (if bt195.2 = 0 then ((bonsairef13_Same.f k bt195.1 y190).bind fun t228 => (if t228 = true then (if bt199.2 = 8 then (if bt203.2 = 5 then (if bt210.2 = 1 then (if bt216.2 = 12 then (if (bt220.1.length : Int) = 0 then (if bt220.2 = 0 then (some (bt224.2 == 7)) else (none)) else (none)) else (none)) else (none)) else (none)) else (none)) else (none))) else (none)) else (none)) else (none))))) else (none))) else (none))) else (none)))) else (none)))) = some r := H
  have A1 := Aside0.mk A10
  clear A10
  replace H := Option.bind_eq_some_iff.mp H
  obtain ⟨⟨t195, t196⟩, A20, H⟩ := H
  replace H : ((rows_Decode.f k (⟨#[66, 78, 83, 73, 2, 0]⟩ : ByteArray)).bind fun bt199 => (if t193.size + 1 ≤ 9223372036854775807 then ((rows_Decode.f k (t193 ++ (⟨#[120]⟩ : ByteArray))).bind fun bt203 => ((rows_Encode.f k (([(⟨(⟨0, 0⟩ : S27), 0, 0, (⟨#[]⟩ : ByteArray), (0 : Int)⟩ : S30)] : List (S30)))).bind fun bt210 => (if 0 < (y190.length : Int) then ((rows_One.f k ((rd_T30 y190 0).f0.f0) ((rd_T30 y190 0).f0.f1) ((rd_T30 y190 0).f1) ((rd_T30 y190 0).f2) ((rd_T30 y190 0).f3) ((rd_T30 y190 0).f4)).bind fun t213 => (if 6 + t213.size ≤ 9223372036854775807 then ((rows_One.f k ((rd_T30 y190 0).f0.f0) ((rd_T30 y190 0).f0.f1) ((rd_T30 y190 0).f1) ((rd_T30 y190 0).f2) ((rd_T30 y190 0).f3) ((rd_T30 y190 0).f4)).bind fun t215 => (if ((⟨#[66, 78, 83, 73, 1, 2]⟩ : ByteArray) ++ t213).size + t215.size ≤ 9223372036854775807 then ((rows_Decode.f k (((⟨#[66, 78, 83, 73, 1, 2]⟩ : ByteArray) ++ t213) ++ t215)).bind fun bt216 => ((rows_Decode.f k (⟨#[66, 78, 83, 73, 1, 0]⟩ : ByteArray)).bind fun bt220 => ((rows_Decode.f k (⟨#[66, 78, 83, 88]⟩ : ByteArray)).bind fun bt224 => (if t194 = 0 then (if t193.toList = ([66, 78, 83, 73, 1, 1, 5, 2, 0, 172, 2, 1, 97, 0, 0, 0, 0, 0, 0, 240, 63] : List UInt8) then (if t196 = 0 then ((bonsairef13_Same.f k t195 y190).bind fun t228 => (if t228 = true then (if bt199.2 = 8 then (if bt203.2 = 5 then (if bt210.2 = 1 then (if bt216.2 = 12 then (if (bt220.1.length : Int) = 0 then (if bt220.2 = 0 then (some (bt224.2 == 7)) else (none)) else (none)) else (none)) else (none)) else (none)) else (none)) else (none))) else (none)) else (none)) else (none))))) else (none))) else (none))) else (none)))) else (none))) = some r := H
  have A2 := Aside0.mk A20
  clear A20
  replace H := Option.bind_eq_some_iff.mp H
  obtain ⟨⟨t199, t200⟩, A30, H⟩ := H
  replace H : (if t193.size + 1 ≤ 9223372036854775807 then ((rows_Decode.f k (t193 ++ (⟨#[120]⟩ : ByteArray))).bind fun bt203 => ((rows_Encode.f k (([(⟨(⟨0, 0⟩ : S27), 0, 0, (⟨#[]⟩ : ByteArray), (0 : Int)⟩ : S30)] : List (S30)))).bind fun bt210 => (if 0 < (y190.length : Int) then ((rows_One.f k ((rd_T30 y190 0).f0.f0) ((rd_T30 y190 0).f0.f1) ((rd_T30 y190 0).f1) ((rd_T30 y190 0).f2) ((rd_T30 y190 0).f3) ((rd_T30 y190 0).f4)).bind fun t213 => (if 6 + t213.size ≤ 9223372036854775807 then ((rows_One.f k ((rd_T30 y190 0).f0.f0) ((rd_T30 y190 0).f0.f1) ((rd_T30 y190 0).f1) ((rd_T30 y190 0).f2) ((rd_T30 y190 0).f3) ((rd_T30 y190 0).f4)).bind fun t215 => (if ((⟨#[66, 78, 83, 73, 1, 2]⟩ : ByteArray) ++ t213).size + t215.size ≤ 9223372036854775807 then ((rows_Decode.f k (((⟨#[66, 78, 83, 73, 1, 2]⟩ : ByteArray) ++ t213) ++ t215)).bind fun bt216 => ((rows_Decode.f k (⟨#[66, 78, 83, 73, 1, 0]⟩ : ByteArray)).bind fun bt220 => ((rows_Decode.f k (⟨#[66, 78, 83, 88]⟩ : ByteArray)).bind fun bt224 => (if t194 = 0 then (if t193.toList = ([66, 78, 83, 73, 1, 1, 5, 2, 0, 172, 2, 1, 97, 0, 0, 0, 0, 0, 0, 240, 63] : List UInt8) then (if t196 = 0 then ((bonsairef13_Same.f k t195 y190).bind fun t228 => (if t228 = true then (if t200 = 8 then (if bt203.2 = 5 then (if bt210.2 = 1 then (if bt216.2 = 12 then (if (bt220.1.length : Int) = 0 then (if bt220.2 = 0 then (some (bt224.2 == 7)) else (none)) else (none)) else (none)) else (none)) else (none)) else (none)) else (none))) else (none)) else (none)) else (none))))) else (none))) else (none))) else (none)))) else (none)) = some r := H
  have A3 := Aside0.mk A30
  clear A30
  by_cases c4 : t193.size + 1 ≤ 9223372036854775807
  · rw [if_pos c4] at H
    have c4b0 := eq_true c4
    have c4b1 : decide (t193.size + 1 ≤ 9223372036854775807) = true := decide_eq_true c4
    try have c4b2 : (9223372036854775807 < t193.size + 1) = False := eq_false (Nat.not_lt.2 c4)
    try (have c4b3 := c4b2; simp only [ByteArray.size_append] at c4b3)
    clear c4
    replace H := Option.bind_eq_some_iff.mp H
    obtain ⟨⟨t203, t204⟩, A50, H⟩ := H
    replace H : ((rows_Encode.f k (([(⟨(⟨0, 0⟩ : S27), 0, 0, (⟨#[]⟩ : ByteArray), (0 : Int)⟩ : S30)] : List (S30)))).bind fun bt210 => (if 0 < (y190.length : Int) then ((rows_One.f k ((rd_T30 y190 0).f0.f0) ((rd_T30 y190 0).f0.f1) ((rd_T30 y190 0).f1) ((rd_T30 y190 0).f2) ((rd_T30 y190 0).f3) ((rd_T30 y190 0).f4)).bind fun t213 => (if 6 + t213.size ≤ 9223372036854775807 then ((rows_One.f k ((rd_T30 y190 0).f0.f0) ((rd_T30 y190 0).f0.f1) ((rd_T30 y190 0).f1) ((rd_T30 y190 0).f2) ((rd_T30 y190 0).f3) ((rd_T30 y190 0).f4)).bind fun t215 => (if ((⟨#[66, 78, 83, 73, 1, 2]⟩ : ByteArray) ++ t213).size + t215.size ≤ 9223372036854775807 then ((rows_Decode.f k (((⟨#[66, 78, 83, 73, 1, 2]⟩ : ByteArray) ++ t213) ++ t215)).bind fun bt216 => ((rows_Decode.f k (⟨#[66, 78, 83, 73, 1, 0]⟩ : ByteArray)).bind fun bt220 => ((rows_Decode.f k (⟨#[66, 78, 83, 88]⟩ : ByteArray)).bind fun bt224 => (if t194 = 0 then (if t193.toList = ([66, 78, 83, 73, 1, 1, 5, 2, 0, 172, 2, 1, 97, 0, 0, 0, 0, 0, 0, 240, 63] : List UInt8) then (if t196 = 0 then ((bonsairef13_Same.f k t195 y190).bind fun t228 => (if t228 = true then (if t200 = 8 then (if t204 = 5 then (if bt210.2 = 1 then (if bt216.2 = 12 then (if (bt220.1.length : Int) = 0 then (if bt220.2 = 0 then (some (bt224.2 == 7)) else (none)) else (none)) else (none)) else (none)) else (none)) else (none)) else (none))) else (none)) else (none)) else (none))))) else (none))) else (none))) else (none))) = some r := H
    have A5 := Aside0.mk A50
    clear A50
    obtain ⟨y207, hy207⟩ : ∃ y_ : List (S30), y_ = (([(⟨(⟨0, 0⟩ : S27), 0, 0, (⟨#[]⟩ : ByteArray), (0 : Int)⟩ : S30)] : List (S30))) := ⟨_, rfl⟩
    replace H : ((rows_Encode.f k y207).bind fun bt210 => (if 0 < (y190.length : Int) then ((rows_One.f k ((rd_T30 y190 0).f0.f0) ((rd_T30 y190 0).f0.f1) ((rd_T30 y190 0).f1) ((rd_T30 y190 0).f2) ((rd_T30 y190 0).f3) ((rd_T30 y190 0).f4)).bind fun t213 => (if 6 + t213.size ≤ 9223372036854775807 then ((rows_One.f k ((rd_T30 y190 0).f0.f0) ((rd_T30 y190 0).f0.f1) ((rd_T30 y190 0).f1) ((rd_T30 y190 0).f2) ((rd_T30 y190 0).f3) ((rd_T30 y190 0).f4)).bind fun t215 => (if ((⟨#[66, 78, 83, 73, 1, 2]⟩ : ByteArray) ++ t213).size + t215.size ≤ 9223372036854775807 then ((rows_Decode.f k (((⟨#[66, 78, 83, 73, 1, 2]⟩ : ByteArray) ++ t213) ++ t215)).bind fun bt216 => ((rows_Decode.f k (⟨#[66, 78, 83, 73, 1, 0]⟩ : ByteArray)).bind fun bt220 => ((rows_Decode.f k (⟨#[66, 78, 83, 88]⟩ : ByteArray)).bind fun bt224 => (if t194 = 0 then (if t193.toList = ([66, 78, 83, 73, 1, 1, 5, 2, 0, 172, 2, 1, 97, 0, 0, 0, 0, 0, 0, 240, 63] : List UInt8) then (if t196 = 0 then ((bonsairef13_Same.f k t195 y190).bind fun t228 => (if t228 = true then (if t200 = 8 then (if t204 = 5 then (if bt210.2 = 1 then (if bt216.2 = 12 then (if (bt220.1.length : Int) = 0 then (if bt220.2 = 0 then (some (bt224.2 == 7)) else (none)) else (none)) else (none)) else (none)) else (none)) else (none)) else (none))) else (none)) else (none)) else (none))))) else (none))) else (none))) else (none))) = some r := by first | (rw [hy207]; with_reducible exact H) | (have H2_ := (Option.bind_some _ _).symm.trans H; rw [hy207]; with_reducible exact H2_) | (have H2_ := (Option.bind_some _ _).symm.trans H; with_reducible exact H2_) | with_reducible exact H | (rw [hy207]; exact H) | exact H
    have Ny207 := Aside0.mk hy207
    clear hy207
    replace H := Option.bind_eq_some_iff.mp H
    obtain ⟨⟨t210, t211⟩, A60, H⟩ := H
    replace H : (if 0 < (y190.length : Int) then ((rows_One.f k ((rd_T30 y190 0).f0.f0) ((rd_T30 y190 0).f0.f1) ((rd_T30 y190 0).f1) ((rd_T30 y190 0).f2) ((rd_T30 y190 0).f3) ((rd_T30 y190 0).f4)).bind fun t213 => (if 6 + t213.size ≤ 9223372036854775807 then ((rows_One.f k ((rd_T30 y190 0).f0.f0) ((rd_T30 y190 0).f0.f1) ((rd_T30 y190 0).f1) ((rd_T30 y190 0).f2) ((rd_T30 y190 0).f3) ((rd_T30 y190 0).f4)).bind fun t215 => (if ((⟨#[66, 78, 83, 73, 1, 2]⟩ : ByteArray) ++ t213).size + t215.size ≤ 9223372036854775807 then ((rows_Decode.f k (((⟨#[66, 78, 83, 73, 1, 2]⟩ : ByteArray) ++ t213) ++ t215)).bind fun bt216 => ((rows_Decode.f k (⟨#[66, 78, 83, 73, 1, 0]⟩ : ByteArray)).bind fun bt220 => ((rows_Decode.f k (⟨#[66, 78, 83, 88]⟩ : ByteArray)).bind fun bt224 => (if t194 = 0 then (if t193.toList = ([66, 78, 83, 73, 1, 1, 5, 2, 0, 172, 2, 1, 97, 0, 0, 0, 0, 0, 0, 240, 63] : List UInt8) then (if t196 = 0 then ((bonsairef13_Same.f k t195 y190).bind fun t228 => (if t228 = true then (if t200 = 8 then (if t204 = 5 then (if t211 = 1 then (if bt216.2 = 12 then (if (bt220.1.length : Int) = 0 then (if bt220.2 = 0 then (some (bt224.2 == 7)) else (none)) else (none)) else (none)) else (none)) else (none)) else (none)) else (none))) else (none)) else (none)) else (none))))) else (none))) else (none))) else (none)) = some r := H
    have A6 := Aside0.mk A60
    clear A60
    by_cases c7 : 0 < (y190.length : Int)
    · rw [if_pos c7] at H
      have c7b0 : decide (0 < (y190.length : Int)) = true := decide_eq_true c7
      have c7b1 : decide (0 < y190.length) = true := decide_eq_true (by omega)
      clear c7
      replace H := Option.bind_eq_some_iff.mp H
      obtain ⟨t213, A80, H⟩ := H
      replace H : (if 6 + t213.size ≤ 9223372036854775807 then ((rows_One.f k ((rd_T30 y190 0).f0.f0) ((rd_T30 y190 0).f0.f1) ((rd_T30 y190 0).f1) ((rd_T30 y190 0).f2) ((rd_T30 y190 0).f3) ((rd_T30 y190 0).f4)).bind fun t215 => (if ((⟨#[66, 78, 83, 73, 1, 2]⟩ : ByteArray) ++ t213).size + t215.size ≤ 9223372036854775807 then ((rows_Decode.f k (((⟨#[66, 78, 83, 73, 1, 2]⟩ : ByteArray) ++ t213) ++ t215)).bind fun bt216 => ((rows_Decode.f k (⟨#[66, 78, 83, 73, 1, 0]⟩ : ByteArray)).bind fun bt220 => ((rows_Decode.f k (⟨#[66, 78, 83, 88]⟩ : ByteArray)).bind fun bt224 => (if t194 = 0 then (if t193.toList = ([66, 78, 83, 73, 1, 1, 5, 2, 0, 172, 2, 1, 97, 0, 0, 0, 0, 0, 0, 240, 63] : List UInt8) then (if t196 = 0 then ((bonsairef13_Same.f k t195 y190).bind fun t228 => (if t228 = true then (if t200 = 8 then (if t204 = 5 then (if t211 = 1 then (if bt216.2 = 12 then (if (bt220.1.length : Int) = 0 then (if bt220.2 = 0 then (some (bt224.2 == 7)) else (none)) else (none)) else (none)) else (none)) else (none)) else (none)) else (none))) else (none)) else (none)) else (none))))) else (none))) else (none)) = some r := H
      have A8 := Aside0.mk A80
      clear A80
      by_cases c9 : 6 + t213.size ≤ 9223372036854775807
      · rw [if_pos c9] at H
        have c9b0 := eq_true c9
        have c9b1 : decide (6 + t213.size ≤ 9223372036854775807) = true := decide_eq_true c9
        try have c9b2 : (9223372036854775807 < 6 + t213.size) = False := eq_false (Nat.not_lt.2 c9)
        try (have c9b3 := c9b2; simp only [ByteArray.size_append] at c9b3)
        clear c9
        replace H := Option.bind_eq_some_iff.mp H
        obtain ⟨t215, A100, H⟩ := H
        replace H : (if ((⟨#[66, 78, 83, 73, 1, 2]⟩ : ByteArray) ++ t213).size + t215.size ≤ 9223372036854775807 then ((rows_Decode.f k (((⟨#[66, 78, 83, 73, 1, 2]⟩ : ByteArray) ++ t213) ++ t215)).bind fun bt216 => ((rows_Decode.f k (⟨#[66, 78, 83, 73, 1, 0]⟩ : ByteArray)).bind fun bt220 => ((rows_Decode.f k (⟨#[66, 78, 83, 88]⟩ : ByteArray)).bind fun bt224 => (if t194 = 0 then (if t193.toList = ([66, 78, 83, 73, 1, 1, 5, 2, 0, 172, 2, 1, 97, 0, 0, 0, 0, 0, 0, 240, 63] : List UInt8) then (if t196 = 0 then ((bonsairef13_Same.f k t195 y190).bind fun t228 => (if t228 = true then (if t200 = 8 then (if t204 = 5 then (if t211 = 1 then (if bt216.2 = 12 then (if (bt220.1.length : Int) = 0 then (if bt220.2 = 0 then (some (bt224.2 == 7)) else (none)) else (none)) else (none)) else (none)) else (none)) else (none)) else (none))) else (none)) else (none)) else (none))))) else (none)) = some r := H
        have A10 := Aside0.mk A100
        clear A100
        by_cases c11 : ((⟨#[66, 78, 83, 73, 1, 2]⟩ : ByteArray) ++ t213).size + t215.size ≤ 9223372036854775807
        · rw [if_pos c11] at H
          have c11b0 := eq_true c11
          have c11b1 : decide (((⟨#[66, 78, 83, 73, 1, 2]⟩ : ByteArray) ++ t213).size + t215.size ≤ 9223372036854775807) = true := decide_eq_true c11
          try have c11b2 : (9223372036854775807 < ((⟨#[66, 78, 83, 73, 1, 2]⟩ : ByteArray) ++ t213).size + t215.size) = False := eq_false (Nat.not_lt.2 c11)
          try (have c11b3 := c11b2; simp only [ByteArray.size_append] at c11b3)
          try rw [show (⟨#[66, 78, 83, 73, 1, 2]⟩ : ByteArray).size = 6 from rfl] at c11b3
          clear c11
          replace H := Option.bind_eq_some_iff.mp H
          obtain ⟨⟨t216, t217⟩, A120, H⟩ := H
          replace H : ((rows_Decode.f k (⟨#[66, 78, 83, 73, 1, 0]⟩ : ByteArray)).bind fun bt220 => ((rows_Decode.f k (⟨#[66, 78, 83, 88]⟩ : ByteArray)).bind fun bt224 => (if t194 = 0 then (if t193.toList = ([66, 78, 83, 73, 1, 1, 5, 2, 0, 172, 2, 1, 97, 0, 0, 0, 0, 0, 0, 240, 63] : List UInt8) then (if t196 = 0 then ((bonsairef13_Same.f k t195 y190).bind fun t228 => (if t228 = true then (if t200 = 8 then (if t204 = 5 then (if t211 = 1 then (if t217 = 12 then (if (bt220.1.length : Int) = 0 then (if bt220.2 = 0 then (some (bt224.2 == 7)) else (none)) else (none)) else (none)) else (none)) else (none)) else (none)) else (none))) else (none)) else (none)) else (none)))) = some r := H
          have A12 := Aside0.mk A120
          clear A120
          replace H := Option.bind_eq_some_iff.mp H
          obtain ⟨⟨t220, t221⟩, A130, H⟩ := H
          replace H : ((rows_Decode.f k (⟨#[66, 78, 83, 88]⟩ : ByteArray)).bind fun bt224 => (if t194 = 0 then (if t193.toList = ([66, 78, 83, 73, 1, 1, 5, 2, 0, 172, 2, 1, 97, 0, 0, 0, 0, 0, 0, 240, 63] : List UInt8) then (if t196 = 0 then ((bonsairef13_Same.f k t195 y190).bind fun t228 => (if t228 = true then (if t200 = 8 then (if t204 = 5 then (if t211 = 1 then (if t217 = 12 then (if (t220.length : Int) = 0 then (if t221 = 0 then (some (bt224.2 == 7)) else (none)) else (none)) else (none)) else (none)) else (none)) else (none)) else (none))) else (none)) else (none)) else (none))) = some r := H
          have A13 := Aside0.mk A130
          clear A130
          replace H := Option.bind_eq_some_iff.mp H
          obtain ⟨⟨t224, t225⟩, A140, H⟩ := H
          replace H : (if t194 = 0 then (if t193.toList = ([66, 78, 83, 73, 1, 1, 5, 2, 0, 172, 2, 1, 97, 0, 0, 0, 0, 0, 0, 240, 63] : List UInt8) then (if t196 = 0 then ((bonsairef13_Same.f k t195 y190).bind fun t228 => (if t228 = true then (if t200 = 8 then (if t204 = 5 then (if t211 = 1 then (if t217 = 12 then (if (t220.length : Int) = 0 then (if t221 = 0 then (some (t225 == 7)) else (none)) else (none)) else (none)) else (none)) else (none)) else (none)) else (none))) else (none)) else (none)) else (none)) = some r := H
          have A14 := Aside0.mk A140
          clear A140
          by_cases c15 : t194 = 0
          · rw [if_pos c15] at H
            have c15b0 : (t194 == 0) = true := beq_iff_eq.mpr c15
            have c15b1 : (t194 != 0) = false := bne_eq_false_iff_eq.mpr c15
            clear c15
            by_cases c16 : t193.toList = ([66, 78, 83, 73, 1, 1, 5, 2, 0, 172, 2, 1, 97, 0, 0, 0, 0, 0, 0, 240, 63] : List UInt8)
            · rw [if_pos c16] at H
              have c16b0 : (t193.toList == ([66, 78, 83, 73, 1, 1, 5, 2, 0, 172, 2, 1, 97, 0, 0, 0, 0, 0, 0, 240, 63] : List UInt8)) = true := beq_iff_eq.mpr c16
              have c16b1 : (t193.toList != ([66, 78, 83, 73, 1, 1, 5, 2, 0, 172, 2, 1, 97, 0, 0, 0, 0, 0, 0, 240, 63] : List UInt8)) = false := bne_eq_false_iff_eq.mpr c16
              clear c16
              by_cases c17 : t196 = 0
              · rw [if_pos c17] at H
                have c17b0 : (t196 == 0) = true := beq_iff_eq.mpr c17
                have c17b1 : (t196 != 0) = false := bne_eq_false_iff_eq.mpr c17
                clear c17
                replace H := Option.bind_eq_some_iff.mp H
                obtain ⟨t228, A180, H⟩ := H
                replace H : (if t228 = true then (if t200 = 8 then (if t204 = 5 then (if t211 = 1 then (if t217 = 12 then (if (t220.length : Int) = 0 then (if t221 = 0 then (some (t225 == 7)) else (none)) else (none)) else (none)) else (none)) else (none)) else (none)) else (none)) = some r := H
                have A18 := Aside0.mk A180
                clear A180
                by_cases c19 : t228 = true
                · subst c19
                  have H1 : (if t200 = 8 then (if t204 = 5 then (if t211 = 1 then (if t217 = 12 then (if (t220.length : Int) = 0 then (if t221 = 0 then (some (t225 == 7)) else (none)) else (none)) else (none)) else (none)) else (none)) else (none)) = some r := by rw [if_pos rfl] at H; exact H
                  clear H
                  have H := H1
                  clear H1
                  by_cases c20 : t200 = 8
                  · rw [if_pos c20] at H
                    have c20b0 : (t200 == 8) = true := beq_iff_eq.mpr c20
                    have c20b1 : (t200 != 8) = false := bne_eq_false_iff_eq.mpr c20
                    clear c20
                    by_cases c21 : t204 = 5
                    · rw [if_pos c21] at H
                      have c21b0 : (t204 == 5) = true := beq_iff_eq.mpr c21
                      have c21b1 : (t204 != 5) = false := bne_eq_false_iff_eq.mpr c21
                      clear c21
                      by_cases c22 : t211 = 1
                      · rw [if_pos c22] at H
                        have c22b0 : (t211 == 1) = true := beq_iff_eq.mpr c22
                        have c22b1 : (t211 != 1) = false := bne_eq_false_iff_eq.mpr c22
                        clear c22
                        by_cases c23 : t217 = 12
                        · rw [if_pos c23] at H
                          have c23b0 : (t217 == 12) = true := beq_iff_eq.mpr c23
                          have c23b1 : (t217 != 12) = false := bne_eq_false_iff_eq.mpr c23
                          clear c23
                          by_cases c24 : (t220.length : Int) = 0
                          · rw [if_pos c24] at H
                            have c24b0 : ((t220.length : Int) == 0) = true := beq_iff_eq.mpr c24
                            have c24b1 : ((t220.length : Int) != 0) = false := bne_eq_false_iff_eq.mpr c24
                            clear c24
                            by_cases c25 : t221 = 0
                            · rw [if_pos c25] at H
                              have c25b0 : (t221 == 0) = true := beq_iff_eq.mpr c25
                              have c25b1 : (t221 != 0) = false := bne_eq_false_iff_eq.mpr c25
                              clear c25
                              obtain rfl := Option.some.inj H
                              go_enter Try.func8, Try.ntmps8
                              try go_wp2_with (first | ((with_reducible refine gate_dst (N := 20) rfl ?_); (try (refine gate_guard (by rfl) ?_; dsimp only)); refine Kd.R_lit k30 _ 30 ?hg (N := 20) ?hd (xs := ([(⟨(⟨5, 2⟩ : S27), 0, 300, (⟨#[97]⟩ : ByteArray), (4607182418800017408 : Int)⟩ : S30)] : List (S30))) (inner := [.int .i64 5, .int .i64 2, .int .i64 0, .int .i64 300, .string (⟨#[97]⟩ : ByteArray), .float .f64 4607182418800017408]) (ok := fun _ => True) (okp := fun _ => True) ?hr ?hp (fun _ hk => hk) trivial (Below.refl _ _) (Nat.le_refl _) (by simp) ?_; (case hd => rfl); (case hg => rfl); (case hr => first | (go_simp; done) | (go_simp; rfl)); (case hp => exact (Reps.c6 (show Kd.M k30 _ _ _ (⟨(⟨5, 2⟩ : S27), 0, 300, (⟨#[97]⟩ : ByteArray), (4607182418800017408 : Int)⟩ : S30) [.int .i64 5, .int .i64 2, .int .i64 0, .int .i64 300, .string (⟨#[97]⟩ : ByteArray), .float .f64 4607182418800017408] from (k30_mkM _ _ _ (⟨(⟨5, 2⟩ : S27), 0, 300, (⟨#[97]⟩ : ByteArray), (4607182418800017408 : Int)⟩ : S30)  (by first | assumption | exact FB_lit _ _ rfl | exact FB_int _ | simpa using (by assumption)))) (Reps.none _ _))); intro v191 w26 ho27 hb hg_ hnew_; clear hg_ hnew_; (first | rw [← Ny190.out] at ho27 | (simp only [Int.reduceToNat] at ho27; rw [← Ny190.out] at ho27)); have n0_ := Aside0.mk (Kd.R_lower ho27 (below_size (by repeat (first | (with_reducible first | exact HB.out | apply below_alloc | apply pw_below_drewN | apply below_drew1) | exact HB.out)))); have n1_ := Aside0.mk (below_step (by repeat (first | (with_reducible first | exact HB.out | apply below_alloc | apply pw_below_drewN | apply below_drew1) | exact HB.out)) hb); clear HB; have HO192 := n0_; have HB := n1_; clear n0_ n1_; clear hb ho27; obtain ⟨Ao28, co28, eo28⟩ := Kd.R_slice HO192.out; subst eo28) | ((with_reducible refine gate_callee (f := 11) rfl ?_); refine goesL_ (some 23) rfl rfl Try.func11 (by kernel_rfl) rfl #[.slice Ao28 y190.length co28] rfl (by (try simp only [List.map_toArray, List.map_cons, List.map_nil]); first | done | rfl | (simp only [List.length_drop, List.length_take]; rfl)) ?_; (with_reducible refine (rows_Encode.calls k _ _ y190 t193 t194 _ ?side1 ?side2 A1.out).mono ?_); (case side1 => repeat (first | exact (Kd.R_reads' HO192.out).2.2 | (with_reducible refine Kd.C_alloc ?_ _) | (with_reducible refine Kd.C_drewN ?_ _) | (with_reducible refine Kd.C_drew ?_))); (case side2 => exact (Kd.R_reads' HO192.out).2.1); rintro e w29 ⟨rfl, hb⟩; refine ⟨_, rfl, ?_⟩; have n0_ := Aside0.mk (Kd.R_below (by (with_reducible repeat (first | apply Kd.R_alloc | apply Kd.R_drewN | apply Kd.R_drew)); exact HO192.out) hb); have n1_ := Aside0.mk (below_step (by repeat (first | (with_reducible first | exact HB.out | apply below_alloc | apply pw_below_drewN | apply below_drew1) | exact HB.out)) hb); clear HO192; clear HB; have HO192 := n0_; have HB := n1_; clear n0_ n1_; (try clear hb); (try clear hb2); (try clear hk); (try clear hi)) | ((with_reducible refine gate_callee (f := 13) rfl ?_); refine goesL_ (some 28) rfl rfl Try.func13 (by kernel_rfl) rfl #[.string t193] rfl (by (try simp only [List.map_toArray, List.map_cons, List.map_nil]); first | done | rfl | (simp only [List.length_drop, List.length_take]; rfl)) ?_; (with_reducible refine (rows_Decode.calls k t193 t195 t196 _ A2.out).mono ?_); rintro e w30 ⟨v197, rfl, ho0, hb⟩; refine ⟨_, rfl, ?_⟩; have n0_ := Aside0.mk (Kd.R_elder' (by (with_reducible repeat (first | apply Kd.R_alloc | apply Kd.R_drewN | apply Kd.R_drew)); exact HO192.out) (Kd.R_base ho0) hb); have n1_ := Aside0.mk (Kd.R_lower (Kd.R_new' ho0 (Kd.R_lt (by (with_reducible repeat (first | apply Kd.R_alloc | apply Kd.R_drewN | apply Kd.R_drew)); exact HO192.out))) (below_size (by repeat (first | (with_reducible first | exact HB.out | apply below_alloc | apply pw_below_drewN | apply below_drew1) | exact HB.out)))); have n2_ := Aside0.mk (below_step (by repeat (first | (with_reducible first | exact HB.out | apply below_alloc | apply pw_below_drewN | apply below_drew1) | exact HB.out)) hb); clear HO192; clear HB; have HO192 := n0_; have HO198 := n1_; have HB := n2_; clear n0_ n1_ n2_; (try clear hb); (try clear hb2); (try clear hk); (try clear hi); (try clear ho0)) | ((with_reducible refine gate_callee (f := 13) rfl ?_); refine goesL_ (some 32) rfl rfl Try.func13 (by kernel_rfl) rfl #[.string (⟨#[66, 78, 83, 73, 2, 0]⟩ : ByteArray)] rfl (by (try simp only [List.map_toArray, List.map_cons, List.map_nil]); first | done | rfl | (simp only [List.length_drop, List.length_take]; rfl)) ?_; (with_reducible refine (rows_Decode.calls k (⟨#[66, 78, 83, 73, 2, 0]⟩ : ByteArray) t199 t200 _ A3.out).mono ?_); rintro e w31 ⟨v201, rfl, ho0, hb⟩; refine ⟨_, rfl, ?_⟩; have n0_ := Aside0.mk (Kd.R_elder' (by (with_reducible repeat (first | apply Kd.R_alloc | apply Kd.R_drewN | apply Kd.R_drew)); exact HO192.out) (Kd.R_base ho0) hb); have n1_ := Aside0.mk (Kd.R_elder' (by (with_reducible repeat (first | apply Kd.R_alloc | apply Kd.R_drewN | apply Kd.R_drew)); exact HO198.out) (Kd.R_base ho0) hb); have n2_ := Aside0.mk (Kd.R_lower (Kd.R_new' (Kd.R_new' ho0 (Kd.R_lt (by (with_reducible repeat (first | apply Kd.R_alloc | apply Kd.R_drewN | apply Kd.R_drew)); exact HO192.out))) (Kd.R_lt (by (with_reducible repeat (first | apply Kd.R_alloc | apply Kd.R_drewN | apply Kd.R_drew)); exact HO198.out))) (below_size (by repeat (first | (with_reducible first | exact HB.out | apply below_alloc | apply pw_below_drewN | apply below_drew1) | exact HB.out)))); have n3_ := Aside0.mk (below_step (by repeat (first | (with_reducible first | exact HB.out | apply below_alloc | apply pw_below_drewN | apply below_drew1) | exact HB.out)) hb); clear HO192; clear HO198; clear HB; have HO192 := n0_; have HO198 := n1_; have HO202 := n2_; have HB := n3_; clear n0_ n1_ n2_ n3_; (try clear hb); (try clear hb2); (try clear hk); (try clear hi); (try clear ho0)) | ((with_reducible refine gate_callee (f := 13) rfl ?_); refine goesL_ (some 38) rfl rfl Try.func13 (by kernel_rfl) rfl #[.string (t193 ++ (⟨#[120]⟩ : ByteArray))] rfl (by (try simp only [List.map_toArray, List.map_cons, List.map_nil]); first | done | rfl | (simp only [List.length_drop, List.length_take]; rfl)) ?_; (with_reducible refine (rows_Decode.calls k (t193 ++ (⟨#[120]⟩ : ByteArray)) t203 t204 _ A5.out).mono ?_); rintro e w32 ⟨v205, rfl, ho0, hb⟩; refine ⟨_, rfl, ?_⟩; have n0_ := Aside0.mk (Kd.R_elder' (by (with_reducible repeat (first | apply Kd.R_alloc | apply Kd.R_drewN | apply Kd.R_drew)); exact HO192.out) (Kd.R_base ho0) hb); have n1_ := Aside0.mk (Kd.R_elder' (by (with_reducible repeat (first | apply Kd.R_alloc | apply Kd.R_drewN | apply Kd.R_drew)); exact HO198.out) (Kd.R_base ho0) hb); have n2_ := Aside0.mk (Kd.R_elder' (by (with_reducible repeat (first | apply Kd.R_alloc | apply Kd.R_drewN | apply Kd.R_drew)); exact HO202.out) (Kd.R_base ho0) hb); have n3_ := Aside0.mk (Kd.R_lower (Kd.R_new' (Kd.R_new' (Kd.R_new' ho0 (Kd.R_lt (by (with_reducible repeat (first | apply Kd.R_alloc | apply Kd.R_drewN | apply Kd.R_drew)); exact HO192.out))) (Kd.R_lt (by (with_reducible repeat (first | apply Kd.R_alloc | apply Kd.R_drewN | apply Kd.R_drew)); exact HO198.out))) (Kd.R_lt (by (with_reducible repeat (first | apply Kd.R_alloc | apply Kd.R_drewN | apply Kd.R_drew)); exact HO202.out))) (below_size (by repeat (first | (with_reducible first | exact HB.out | apply below_alloc | apply pw_below_drewN | apply below_drew1) | exact HB.out)))); have n4_ := Aside0.mk (below_step (by repeat (first | (with_reducible first | exact HB.out | apply below_alloc | apply pw_below_drewN | apply below_drew1) | exact HB.out)) hb); clear HO192; clear HO198; clear HO202; clear HB; have HO192 := n0_; have HO198 := n1_; have HO202 := n2_; have HO206 := n3_; have HB := n4_; clear n0_ n1_ n2_ n3_ n4_; (try clear hb); (try clear hb2); (try clear hk); (try clear hi); (try clear ho0)) | ((with_reducible refine gate_dst (N := 43) rfl ?_); (try (refine gate_guard (by rfl) ?_; dsimp only)); refine Kd.R_lit k30 _ 30 ?hg (N := 43) ?hd (xs := ([(⟨(⟨0, 0⟩ : S27), 0, 0, (⟨#[]⟩ : ByteArray), (0 : Int)⟩ : S30)] : List (S30))) (inner := [.int .i64 0, .int .i64 0, .int .i64 0, .int .i64 0, .string (⟨#[]⟩ : ByteArray), .float .f64 0]) (ok := fun _ => True) (okp := fun _ => True) ?hr ?hp (fun _ hk => hk) trivial (Below.refl _ _) (Nat.le_refl _) (by simp) ?_; (case hd => rfl); (case hg => rfl); (case hr => first | (go_simp; done) | (go_simp; rfl)); (case hp => exact (Reps.c6 (show Kd.M k30 _ _ _ (⟨(⟨0, 0⟩ : S27), 0, 0, (⟨#[]⟩ : ByteArray), (0 : Int)⟩ : S30) [.int .i64 0, .int .i64 0, .int .i64 0, .int .i64 0, .string (⟨#[]⟩ : ByteArray), .float .f64 0] from (k30_mkM _ _ _ (⟨(⟨0, 0⟩ : S27), 0, 0, (⟨#[]⟩ : ByteArray), (0 : Int)⟩ : S30)  (by first | assumption | exact FB_lit _ _ rfl | exact FB_int _ | simpa using (by assumption)))) (Reps.none _ _))); intro v208 w33 ho34 hb hg_ hnew_; clear hg_ hnew_; (first | rw [← Ny207.out] at ho34 | (simp only [Int.reduceToNat] at ho34; rw [← Ny207.out] at ho34)); have n0_ := Aside0.mk (Kd.R_elder' (by (with_reducible repeat (first | apply Kd.R_alloc | apply Kd.R_drewN | apply Kd.R_drew)); exact HO192.out) (Kd.R_base ho34) hb); have n1_ := Aside0.mk (Kd.R_elder' (by (with_reducible repeat (first | apply Kd.R_alloc | apply Kd.R_drewN | apply Kd.R_drew)); exact HO198.out) (Kd.R_base ho34) hb); have n2_ := Aside0.mk (Kd.R_elder' (by (with_reducible repeat (first | apply Kd.R_alloc | apply Kd.R_drewN | apply Kd.R_drew)); exact HO202.out) (Kd.R_base ho34) hb); have n3_ := Aside0.mk (Kd.R_elder' (by (with_reducible repeat (first | apply Kd.R_alloc | apply Kd.R_drewN | apply Kd.R_drew)); exact HO206.out) (Kd.R_base ho34) hb); have n4_ := Aside0.mk (Kd.R_lower (Kd.R_new' (Kd.R_new' (Kd.R_new' (Kd.R_new' ho34 (Kd.R_lt (by (with_reducible repeat (first | apply Kd.R_alloc | apply Kd.R_drewN | apply Kd.R_drew)); exact HO192.out))) (Kd.R_lt (by (with_reducible repeat (first | apply Kd.R_alloc | apply Kd.R_drewN | apply Kd.R_drew)); exact HO198.out))) (Kd.R_lt (by (with_reducible repeat (first | apply Kd.R_alloc | apply Kd.R_drewN | apply Kd.R_drew)); exact HO202.out))) (Kd.R_lt (by (with_reducible repeat (first | apply Kd.R_alloc | apply Kd.R_drewN | apply Kd.R_drew)); exact HO206.out))) (below_size (by repeat (first | (with_reducible first | exact HB.out | apply below_alloc | apply pw_below_drewN | apply below_drew1) | exact HB.out)))); have n5_ := Aside0.mk (below_step (by repeat (first | (with_reducible first | exact HB.out | apply below_alloc | apply pw_below_drewN | apply below_drew1) | exact HB.out)) hb); clear HO192; clear HO198; clear HO202; clear HO206; clear HB; have HO192 := n0_; have HO198 := n1_; have HO202 := n2_; have HO206 := n3_; have HO209 := n4_; have HB := n5_; clear n0_ n1_ n2_ n3_ n4_ n5_; clear hb ho34; obtain ⟨Ao35, co35, eo35⟩ := Kd.R_slice HO209.out; subst eo35) | ((with_reducible refine gate_callee (f := 11) rfl ?_); refine goesL_ (some 44) rfl rfl Try.func11 (by kernel_rfl) rfl #[.slice Ao35 y207.length co35] rfl (by (try simp only [List.map_toArray, List.map_cons, List.map_nil]); first | done | rfl | (simp only [List.length_drop, List.length_take]; rfl)) ?_; (with_reducible refine (rows_Encode.calls k _ _ y207 t210 t211 _ ?side1 ?side2 A6.out).mono ?_); (case side1 => repeat (first | exact (Kd.R_reads' HO209.out).2.2 | (with_reducible refine Kd.C_alloc ?_ _) | (with_reducible refine Kd.C_drewN ?_ _) | (with_reducible refine Kd.C_drew ?_))); (case side2 => exact (Kd.R_reads' HO209.out).2.1); rintro e w36 ⟨rfl, hb⟩; refine ⟨_, rfl, ?_⟩; have n0_ := Aside0.mk (Kd.R_below (by (with_reducible repeat (first | apply Kd.R_alloc | apply Kd.R_drewN | apply Kd.R_drew)); exact HO192.out) hb); have n1_ := Aside0.mk (Kd.R_below (by (with_reducible repeat (first | apply Kd.R_alloc | apply Kd.R_drewN | apply Kd.R_drew)); exact HO198.out) hb); have n2_ := Aside0.mk (Kd.R_below (by (with_reducible repeat (first | apply Kd.R_alloc | apply Kd.R_drewN | apply Kd.R_drew)); exact HO202.out) hb); have n3_ := Aside0.mk (Kd.R_below (by (with_reducible repeat (first | apply Kd.R_alloc | apply Kd.R_drewN | apply Kd.R_drew)); exact HO206.out) hb); have n4_ := Aside0.mk (Kd.R_below (by (with_reducible repeat (first | apply Kd.R_alloc | apply Kd.R_drewN | apply Kd.R_drew)); exact HO209.out) hb); have n5_ := Aside0.mk (below_step (by repeat (first | (with_reducible first | exact HB.out | apply below_alloc | apply pw_below_drewN | apply below_drew1) | exact HB.out)) hb); clear HO192; clear HO198; clear HO202; clear HO206; clear HO209; clear HB; have HO192 := n0_; have HO198 := n1_; have HO202 := n2_; have HO206 := n3_; have HO209 := n4_; have HB := n5_; clear n0_ n1_ n2_ n3_ n4_ n5_; (try clear hb); (try clear hb2); (try clear hk); (try clear hi)))
                              have n0_ := Aside0.mk (Kd.R_drew HO192.out)
                              have n1_ := Aside0.mk (Kd.R_drew HO198.out)
                              have n2_ := Aside0.mk (Kd.R_drew HO202.out)
                              have n3_ := Aside0.mk (Kd.R_drew HO206.out)
                              have n4_ := Aside0.mk (Kd.R_drew HO209.out)
                              have n5_ := Aside0.mk (below_drew1 HB.out)
                              clear HO192
                              clear HO198
                              clear HO202
                              clear HO206
                              clear HO209
                              clear HB
                              have HO192 := n0_
                              have HO198 := n1_
                              have HO202 := n2_
                              have HO206 := n3_
                              have HO209 := n4_
                              have HB := n5_
                              clear n0_ n1_ n2_ n3_ n4_ n5_
                              have p212 : 0 ≤ (0 : Int) := (by omega)
                              have q212 : 0 < (y190.length : Int) := of_decide_eq_true (by first | (with_reducible assumption) | assumption)
                              obtain ⟨ad212, bv212_5, e212, hx212_0, hx212_1, hx212_2, hx212_3, hx212_4, hx212_5, bq212_5⟩ := at_T30 (Kd.R_reads' HO192.out).2.2 0 p212 q212
                              cases e212
                              have qi212 : (0 < y190.length) = True := eq_true (by omega)
                              (try rw [show ((0 : Int)).toNat = 0 from rfl] at hx212_0)
                              (try rw [show 0 * 6 = 0 from rfl] at hx212_0)
                              (try rw [Addr.add_zero'] at hx212_0)
                              (try rw [show ((0 : Int)).toNat = 0 from rfl] at hx212_1)
                              (try rw [show 0 * 6 = 0 from rfl] at hx212_1)
                              (try rw [Addr.add_zero'] at hx212_1)
                              (try rw [show ((0 : Int)).toNat = 0 from rfl] at hx212_2)
                              (try rw [show 0 * 6 = 0 from rfl] at hx212_2)
                              (try rw [Addr.add_zero'] at hx212_2)
                              (try rw [show ((0 : Int)).toNat = 0 from rfl] at hx212_3)
                              (try rw [show 0 * 6 = 0 from rfl] at hx212_3)
                              (try rw [Addr.add_zero'] at hx212_3)
                              (try rw [show ((0 : Int)).toNat = 0 from rfl] at hx212_4)
                              (try rw [show 0 * 6 = 0 from rfl] at hx212_4)
                              (try rw [Addr.add_zero'] at hx212_4)
                              (try rw [show ((0 : Int)).toNat = 0 from rfl] at hx212_5)
                              (try rw [show 0 * 6 = 0 from rfl] at hx212_5)
                              (try rw [Addr.add_zero'] at hx212_5)
                              replace p212 := eq_true p212
                              replace q212 := eq_true q212
                              have p214 : 0 ≤ (0 : Int) := (by omega)
                              have q214 : 0 < (y190.length : Int) := of_decide_eq_true (by first | (with_reducible assumption) | assumption)
                              obtain ⟨ad214, bv214_5, e214, hx214_0, hx214_1, hx214_2, hx214_3, hx214_4, hx214_5, bq214_5⟩ := at_T30 (Kd.R_reads' HO192.out).2.2 0 p214 q214
                              obtain rfl : ad212 = ad214 := (by injection e214)
                              have qi214 : (0 < y190.length) = True := eq_true (by omega)
                              (try rw [show ((0 : Int)).toNat = 0 from rfl] at hx214_0)
                              (try rw [show 0 * 6 = 0 from rfl] at hx214_0)
                              (try rw [Addr.add_zero'] at hx214_0)
                              (try rw [show ((0 : Int)).toNat = 0 from rfl] at hx214_1)
                              (try rw [show 0 * 6 = 0 from rfl] at hx214_1)
                              (try rw [Addr.add_zero'] at hx214_1)
                              (try rw [show ((0 : Int)).toNat = 0 from rfl] at hx214_2)
                              (try rw [show 0 * 6 = 0 from rfl] at hx214_2)
                              (try rw [Addr.add_zero'] at hx214_2)
                              (try rw [show ((0 : Int)).toNat = 0 from rfl] at hx214_3)
                              (try rw [show 0 * 6 = 0 from rfl] at hx214_3)
                              (try rw [Addr.add_zero'] at hx214_3)
                              (try rw [show ((0 : Int)).toNat = 0 from rfl] at hx214_4)
                              (try rw [show 0 * 6 = 0 from rfl] at hx214_4)
                              (try rw [Addr.add_zero'] at hx214_4)
                              (try rw [show ((0 : Int)).toNat = 0 from rfl] at hx214_5)
                              (try rw [show 0 * 6 = 0 from rfl] at hx214_5)
                              (try rw [Addr.add_zero'] at hx214_5)
                              replace p214 := eq_true p214
                              replace q214 := eq_true q214
                              obtain rfl : bv212_5 = bv214_5 := (Value.float.inj (Option.some.inj (hx212_5.symm.trans hx214_5))).2
                              refine start_ (n := 16) (S := fun w' => w'.cell? ad212 = some (.int .i64 ((rd_T30 y190 0).f0.f0)) ∧ w'.cell? ⟨ad212.block, ad212.off + 1, none⟩ = some (.int .i64 ((rd_T30 y190 0).f0.f1)) ∧ w'.cell? ⟨ad212.block, ad212.off + 2, none⟩ = some (.int .i64 ((rd_T30 y190 0).f1)) ∧ w'.cell? ⟨ad212.block, ad212.off + 3, none⟩ = some (.int .i64 ((rd_T30 y190 0).f2)) ∧ w'.cell? ⟨ad212.block, ad212.off + 4, none⟩ = some (.string ((rd_T30 y190 0).f3)) ∧ w'.cell? ⟨ad212.block, ad212.off + 5, none⟩ = some (.float .f64 bv212_5) ∧ w'.cell? ad212 = some (.int .i64 ((rd_T30 y190 0).f0.f0)) ∧ w'.cell? ⟨ad212.block, ad212.off + 1, none⟩ = some (.int .i64 ((rd_T30 y190 0).f0.f1)) ∧ w'.cell? ⟨ad212.block, ad212.off + 2, none⟩ = some (.int .i64 ((rd_T30 y190 0).f1)) ∧ w'.cell? ⟨ad212.block, ad212.off + 3, none⟩ = some (.int .i64 ((rd_T30 y190 0).f2)) ∧ w'.cell? ⟨ad212.block, ad212.off + 4, none⟩ = some (.string ((rd_T30 y190 0).f3)) ∧ w'.cell? ⟨ad212.block, ad212.off + 5, none⟩ = some (.float .f64 bv212_5)) (ds := []) #[false, false, false, false, false, false, false, false, false, false, false, false, false, false, false, false] (by kernel_rfl) rfl rfl ⟨hx212_0, hx212_1, hx212_2, hx212_3, hx212_4, hx212_5, hx214_0, hx214_1, hx214_2, hx214_3, hx214_4, hx214_5⟩ (fun hHeld => ?_); refine with_tabW bonsailaw21_live.tab7 bonsailaw21_live.bits7 (fun HT_ HW_ => ?_)
                              generalize w36.drew = w37 at HO192 HO198 HO202 HO206 HO209 HB hx212_0 hx212_1 hx212_2 hx212_3 hx212_4 hx212_5 hx214_0 hx214_1 hx214_2 hx214_3 hx214_4 hx214_5 hHeld ⊢
                              refine pure_ (i := 0) (N := some 48) (v := ?_) (a' := ?_) #[true, false, false, false, false, false, false, false, false, false, false, false, false, false, false, false] rfl rfl (any_of HT_.out (by kernel_rfl)) (fun _ _ _ h => h) (Or.inl ⟨by rfl, ?_⟩) ?_ ?_
                              rotate_left
                              · intro w'
                                go_simp
                                with_reducible rfl
                              rotate_left
                              · simp only [Act.put, List.setIfInBounds_toArray, List.set_cons_zero, List.set_cons_succ, i64_w, i32_w]
                                rfl
                              refine pure_ (i := 1) (N := some 49) (v := ?_) (a' := ?_) #[true, true, false, false, false, false, false, false, false, false, false, false, false, false, false, false] rfl rfl (any_of HT_.out (by kernel_rfl)) (fun _ _ _ h => h) (Or.inl ⟨by rfl, ?_⟩) ?_ ?_
                              rotate_left
                              · intro w'
                                go_simp
                                with_reducible rfl
                              rotate_left
                              · simp only [Act.put, List.setIfInBounds_toArray, List.set_cons_zero, List.set_cons_succ, i64_w, i32_w]
                                rfl
                              refine pure_ (i := 5) (N := some 53) (v := ?_) (a' := ?_) #[true, true, false, false, false, true, false, false, false, false, false, false, false, false, false, false] rfl rfl (any_of HT_.out (by kernel_rfl)) (fun _ _ _ h => h) (Or.inl ⟨by rfl, ?_⟩) ?_ ?_
                              rotate_left
                              · intro w'
                                go_simp
                                with_reducible rfl
                              rotate_left
                              · simp only [Act.put, List.setIfInBounds_toArray, List.set_cons_zero, List.set_cons_succ, i64_w, i32_w]
                                rfl
                              refine pure_ (i := 6) (N := some 54) (v := ?_) (a' := ?_) #[true, true, false, false, false, true, true, false, false, false, false, false, false, false, false, false] rfl rfl (any_of HT_.out (by kernel_rfl)) (fun _ _ _ h => h) (Or.inl ⟨by rfl, ?_⟩) ?_ ?_
                              rotate_left
                              · intro w'
                                go_simp
                                with_reducible rfl
                              rotate_left
                              · simp only [Act.put, List.setIfInBounds_toArray, List.set_cons_zero, List.set_cons_succ, i64_w, i32_w]
                                rfl
                              refine take_ (i := 2) (N := some 50) (v := ?_) (a' := ?_) #[true, true, true, false, false, true, true, false, false, false, false, false, false, false, false, false] rfl rfl (take_ofW HT_.out HW_.out (by kernel_rfl)) (fun _ _ _ h => h) (Or.inl ⟨by rfl, ?_⟩) hHeld ?_ ?_
                              rotate_left
                              · rintro w' ⟨s0, s1, s2, s3, s4, s5, s6, s7, s8, s9, s10, s11⟩
                                go_simp
                                with_reducible rfl
                              rotate_left
                              · simp only [Act.put, List.setIfInBounds_toArray, List.set_cons_zero, List.set_cons_succ, i64_w, i32_w]
                                rfl
                              refine take_ (i := 7) (N := some 55) (v := ?_) (a' := ?_) #[true, true, true, false, false, true, true, true, false, false, false, false, false, false, false, false] rfl rfl (take_ofW HT_.out HW_.out (by kernel_rfl)) (fun _ _ _ h => h) (Or.inl ⟨by rfl, ?_⟩) hHeld ?_ ?_
                              rotate_left
                              · rintro w' ⟨s0, s1, s2, s3, s4, s5, s6, s7, s8, s9, s10, s11⟩
                                go_simp
                                with_reducible rfl
                              rotate_left
                              · simp only [Act.put, List.setIfInBounds_toArray, List.set_cons_zero, List.set_cons_succ, i64_w, i32_w]
                                rfl
                              refine one_ (i := 3) (N := some 51) #[true, true, true, true, false, true, true, true, false, false, false, false, false, false, false, false] rfl rfl (one_of HT_.out (by kernel_rfl)) (by decide) (fun K hK => ?_)
                              refine goes_ Try.func9 (by kernel_rfl) rfl #[.agg #[.int .i64 ((rd_T30 y190 0).f0.f0), .int .i64 ((rd_T30 y190 0).f0.f1), .int .i64 ((rd_T30 y190 0).f1), .int .i64 ((rd_T30 y190 0).f2), .string ((rd_T30 y190 0).f3), .float .f64 bv212_5]] (by rfl) rfl rfl (by (try simp only [List.map_toArray, List.map_cons, List.map_nil]); first | done | rfl | (simp only [List.length_drop, List.length_take]; rfl)) ?_
                              with_reducible refine (rows_One.calls k ((rd_T30 y190 0).f0.f0) ((rd_T30 y190 0).f0.f1) ((rd_T30 y190 0).f1) ((rd_T30 y190 0).f2) ((rd_T30 y190 0).f3) _ ((rd_T30 y190 0).f4) t213 _ ?side1 A8.out).mono ?_
                              (case side1 => exact (by first | assumption | exact FB_lit _ _ rfl | exact FB_int _ | simpa using (by assumption)))
                              rintro e w38 ⟨rfl, hb⟩
                              have HS0_ := (hb.cell (World.block_lt_of_cell? _ _ (hHeld.1))).trans (hHeld.1)
                              have HS1_ := (hb.cell (World.block_lt_of_cell? _ _ (hHeld.2.1))).trans (hHeld.2.1)
                              have HS2_ := (hb.cell (World.block_lt_of_cell? _ _ (hHeld.2.2.1))).trans (hHeld.2.2.1)
                              have HS3_ := (hb.cell (World.block_lt_of_cell? _ _ (hHeld.2.2.2.1))).trans (hHeld.2.2.2.1)
                              have HS4_ := (hb.cell (World.block_lt_of_cell? _ _ (hHeld.2.2.2.2.1))).trans (hHeld.2.2.2.2.1)
                              have HS5_ := (hb.cell (World.block_lt_of_cell? _ _ (hHeld.2.2.2.2.2.1))).trans (hHeld.2.2.2.2.2.1)
                              have HS6_ := (hb.cell (World.block_lt_of_cell? _ _ (hHeld.2.2.2.2.2.2.1))).trans (hHeld.2.2.2.2.2.2.1)
                              have HS7_ := (hb.cell (World.block_lt_of_cell? _ _ (hHeld.2.2.2.2.2.2.2.1))).trans (hHeld.2.2.2.2.2.2.2.1)
                              have HS8_ := (hb.cell (World.block_lt_of_cell? _ _ (hHeld.2.2.2.2.2.2.2.2.1))).trans (hHeld.2.2.2.2.2.2.2.2.1)
                              have HS9_ := (hb.cell (World.block_lt_of_cell? _ _ (hHeld.2.2.2.2.2.2.2.2.2.1))).trans (hHeld.2.2.2.2.2.2.2.2.2.1)
                              have HS10_ := (hb.cell (World.block_lt_of_cell? _ _ (hHeld.2.2.2.2.2.2.2.2.2.2.1))).trans (hHeld.2.2.2.2.2.2.2.2.2.2.1)
                              have HS11_ := (hb.cell (World.block_lt_of_cell? _ _ (hHeld.2.2.2.2.2.2.2.2.2.2.2))).trans (hHeld.2.2.2.2.2.2.2.2.2.2.2)
                              refine ⟨_, rfl, ?_⟩
                              have n0_ := Aside0.mk (Kd.R_below (by (with_reducible repeat (first | apply Kd.R_alloc | apply Kd.R_drewN | apply Kd.R_drew)); exact HO192.out) hb)
                              have n1_ := Aside0.mk (Kd.R_below (by (with_reducible repeat (first | apply Kd.R_alloc | apply Kd.R_drewN | apply Kd.R_drew)); exact HO198.out) hb)
                              have n2_ := Aside0.mk (Kd.R_below (by (with_reducible repeat (first | apply Kd.R_alloc | apply Kd.R_drewN | apply Kd.R_drew)); exact HO202.out) hb)
                              have n3_ := Aside0.mk (Kd.R_below (by (with_reducible repeat (first | apply Kd.R_alloc | apply Kd.R_drewN | apply Kd.R_drew)); exact HO206.out) hb)
                              have n4_ := Aside0.mk (Kd.R_below (by (with_reducible repeat (first | apply Kd.R_alloc | apply Kd.R_drewN | apply Kd.R_drew)); exact HO209.out) hb)
                              have n5_ := Aside0.mk (below_step (by repeat (first | (with_reducible first | exact HB.out | apply below_alloc | apply pw_below_drewN | apply below_drew1) | exact HB.out)) hb)
                              clear HO192
                              clear HO198
                              clear HO202
                              clear HO206
                              clear HO209
                              clear HB
                              have HO192 := n0_
                              have HO198 := n1_
                              have HO202 := n2_
                              have HO206 := n3_
                              have HO209 := n4_
                              have HB := n5_
                              clear n0_ n1_ n2_ n3_ n4_ n5_
                              (try clear hb)
                              (try clear hb2)
                              (try clear hk)
                              (try clear hi)
                              refine hK.out _ _ ⟨HS0_, HS1_, HS2_, HS3_, HS4_, HS5_, HS6_, HS7_, HS8_, HS9_, HS10_, HS11_⟩ (fun hHeld => ?_)
                              clear hK K
                              refine norm_ (a' := ?_) ?_ ?_
                              rotate_left
                              · show Act.put _ (some 51) _ = _
                                simp only [Act.put, List.setIfInBounds_toArray, List.set_cons_zero, List.set_cons_succ, i64_w, i32_w]
                                rfl
                              refine pure_ (i := 4) (N := some 52) (v := ?_) (a' := ?_) #[true, true, true, true, true, true, true, true, false, false, false, false, false, false, false, false] rfl rfl (any_of HT_.out (by kernel_rfl)) (fun _ _ _ h => h) (Or.inl ⟨by rfl, ?_⟩) ?_ ?_
                              rotate_left
                              · intro w'
                                go_simp
                                with_reducible rfl
                              rotate_left
                              · simp only [Act.put, List.setIfInBounds_toArray, List.set_cons_zero, List.set_cons_succ, i64_w, i32_w]
                                rfl
                              refine one_ (i := 8) (N := some 56) #[true, true, true, true, true, true, true, true, true, false, false, false, false, false, false, false] rfl rfl (one_of HT_.out (by kernel_rfl)) (by decide) (fun K hK => ?_)
                              refine goes_ Try.func9 (by kernel_rfl) rfl #[.agg #[.int .i64 ((rd_T30 y190 0).f0.f0), .int .i64 ((rd_T30 y190 0).f0.f1), .int .i64 ((rd_T30 y190 0).f1), .int .i64 ((rd_T30 y190 0).f2), .string ((rd_T30 y190 0).f3), .float .f64 bv212_5]] (by rfl) rfl rfl (by (try simp only [List.map_toArray, List.map_cons, List.map_nil]); first | done | rfl | (simp only [List.length_drop, List.length_take]; rfl)) ?_
                              with_reducible refine (rows_One.calls k ((rd_T30 y190 0).f0.f0) ((rd_T30 y190 0).f0.f1) ((rd_T30 y190 0).f1) ((rd_T30 y190 0).f2) ((rd_T30 y190 0).f3) _ ((rd_T30 y190 0).f4) t215 _ ?side1 A10.out).mono ?_
                              (case side1 => exact (by first | assumption | exact FB_lit _ _ rfl | exact FB_int _ | simpa using (by assumption)))
                              rintro e w39 ⟨rfl, hb⟩
                              have HS0_ := (hb.cell (World.block_lt_of_cell? _ _ (hHeld.1))).trans (hHeld.1)
                              have HS1_ := (hb.cell (World.block_lt_of_cell? _ _ (hHeld.2.1))).trans (hHeld.2.1)
                              have HS2_ := (hb.cell (World.block_lt_of_cell? _ _ (hHeld.2.2.1))).trans (hHeld.2.2.1)
                              have HS3_ := (hb.cell (World.block_lt_of_cell? _ _ (hHeld.2.2.2.1))).trans (hHeld.2.2.2.1)
                              have HS4_ := (hb.cell (World.block_lt_of_cell? _ _ (hHeld.2.2.2.2.1))).trans (hHeld.2.2.2.2.1)
                              have HS5_ := (hb.cell (World.block_lt_of_cell? _ _ (hHeld.2.2.2.2.2.1))).trans (hHeld.2.2.2.2.2.1)
                              have HS6_ := (hb.cell (World.block_lt_of_cell? _ _ (hHeld.2.2.2.2.2.2.1))).trans (hHeld.2.2.2.2.2.2.1)
                              have HS7_ := (hb.cell (World.block_lt_of_cell? _ _ (hHeld.2.2.2.2.2.2.2.1))).trans (hHeld.2.2.2.2.2.2.2.1)
                              have HS8_ := (hb.cell (World.block_lt_of_cell? _ _ (hHeld.2.2.2.2.2.2.2.2.1))).trans (hHeld.2.2.2.2.2.2.2.2.1)
                              have HS9_ := (hb.cell (World.block_lt_of_cell? _ _ (hHeld.2.2.2.2.2.2.2.2.2.1))).trans (hHeld.2.2.2.2.2.2.2.2.2.1)
                              have HS10_ := (hb.cell (World.block_lt_of_cell? _ _ (hHeld.2.2.2.2.2.2.2.2.2.2.1))).trans (hHeld.2.2.2.2.2.2.2.2.2.2.1)
                              have HS11_ := (hb.cell (World.block_lt_of_cell? _ _ (hHeld.2.2.2.2.2.2.2.2.2.2.2))).trans (hHeld.2.2.2.2.2.2.2.2.2.2.2)
                              refine ⟨_, rfl, ?_⟩
                              have n0_ := Aside0.mk (Kd.R_below (by (with_reducible repeat (first | apply Kd.R_alloc | apply Kd.R_drewN | apply Kd.R_drew)); exact HO192.out) hb)
                              have n1_ := Aside0.mk (Kd.R_below (by (with_reducible repeat (first | apply Kd.R_alloc | apply Kd.R_drewN | apply Kd.R_drew)); exact HO198.out) hb)
                              have n2_ := Aside0.mk (Kd.R_below (by (with_reducible repeat (first | apply Kd.R_alloc | apply Kd.R_drewN | apply Kd.R_drew)); exact HO202.out) hb)
                              have n3_ := Aside0.mk (Kd.R_below (by (with_reducible repeat (first | apply Kd.R_alloc | apply Kd.R_drewN | apply Kd.R_drew)); exact HO206.out) hb)
                              have n4_ := Aside0.mk (Kd.R_below (by (with_reducible repeat (first | apply Kd.R_alloc | apply Kd.R_drewN | apply Kd.R_drew)); exact HO209.out) hb)
                              have n5_ := Aside0.mk (below_step (by repeat (first | (with_reducible first | exact HB.out | apply below_alloc | apply pw_below_drewN | apply below_drew1) | exact HB.out)) hb)
                              clear HO192
                              clear HO198
                              clear HO202
                              clear HO206
                              clear HO209
                              clear HB
                              have HO192 := n0_
                              have HO198 := n1_
                              have HO202 := n2_
                              have HO206 := n3_
                              have HO209 := n4_
                              have HB := n5_
                              clear n0_ n1_ n2_ n3_ n4_ n5_
                              (try clear hb)
                              (try clear hb2)
                              (try clear hk)
                              (try clear hi)
                              refine hK.out _ _ ⟨HS0_, HS1_, HS2_, HS3_, HS4_, HS5_, HS6_, HS7_, HS8_, HS9_, HS10_, HS11_⟩ (fun hHeld => ?_)
                              clear hK K
                              refine norm_ (a' := ?_) ?_ ?_
                              rotate_left
                              · show Act.put _ (some 56) _ = _
                                simp only [Act.put, List.setIfInBounds_toArray, List.set_cons_zero, List.set_cons_succ, i64_w, i32_w]
                                rfl
                              refine pure_ (i := 9) (N := some 57) (v := ?_) (a' := ?_) #[true, true, true, true, true, true, true, true, true, true, false, false, false, false, false, false] rfl rfl (any_of HT_.out (by kernel_rfl)) (fun _ _ _ h => h) (Or.inl ⟨by rfl, ?_⟩) ?_ ?_
                              rotate_left
                              · intro w'
                                go_simp
                                with_reducible rfl
                              rotate_left
                              · simp only [Act.put, List.setIfInBounds_toArray, List.set_cons_zero, List.set_cons_succ, i64_w, i32_w]
                                rfl
                              refine one_ (i := 10) (N := some 58) #[true, true, true, true, true, true, true, true, true, true, true, false, false, false, false, false] rfl rfl (one_of HT_.out (by kernel_rfl)) (by decide) (fun K hK => ?_)
                              refine goes_ Try.func13 (by kernel_rfl) rfl #[.string (((⟨#[66, 78, 83, 73, 1, 2]⟩ : ByteArray) ++ t213) ++ t215)] (by rfl) rfl rfl (by (try simp only [List.map_toArray, List.map_cons, List.map_nil]); first | done | rfl | (simp only [List.length_drop, List.length_take]; rfl)) ?_
                              with_reducible refine (rows_Decode.calls k (((⟨#[66, 78, 83, 73, 1, 2]⟩ : ByteArray) ++ t213) ++ t215) t216 t217 _ A12.out).mono ?_
                              rintro e w40 ⟨v218, rfl, ho0, hb⟩
                              have HS0_ := (hb.cell (World.block_lt_of_cell? _ _ (hHeld.1))).trans (hHeld.1)
                              have HS1_ := (hb.cell (World.block_lt_of_cell? _ _ (hHeld.2.1))).trans (hHeld.2.1)
                              have HS2_ := (hb.cell (World.block_lt_of_cell? _ _ (hHeld.2.2.1))).trans (hHeld.2.2.1)
                              have HS3_ := (hb.cell (World.block_lt_of_cell? _ _ (hHeld.2.2.2.1))).trans (hHeld.2.2.2.1)
                              have HS4_ := (hb.cell (World.block_lt_of_cell? _ _ (hHeld.2.2.2.2.1))).trans (hHeld.2.2.2.2.1)
                              have HS5_ := (hb.cell (World.block_lt_of_cell? _ _ (hHeld.2.2.2.2.2.1))).trans (hHeld.2.2.2.2.2.1)
                              have HS6_ := (hb.cell (World.block_lt_of_cell? _ _ (hHeld.2.2.2.2.2.2.1))).trans (hHeld.2.2.2.2.2.2.1)
                              have HS7_ := (hb.cell (World.block_lt_of_cell? _ _ (hHeld.2.2.2.2.2.2.2.1))).trans (hHeld.2.2.2.2.2.2.2.1)
                              have HS8_ := (hb.cell (World.block_lt_of_cell? _ _ (hHeld.2.2.2.2.2.2.2.2.1))).trans (hHeld.2.2.2.2.2.2.2.2.1)
                              have HS9_ := (hb.cell (World.block_lt_of_cell? _ _ (hHeld.2.2.2.2.2.2.2.2.2.1))).trans (hHeld.2.2.2.2.2.2.2.2.2.1)
                              have HS10_ := (hb.cell (World.block_lt_of_cell? _ _ (hHeld.2.2.2.2.2.2.2.2.2.2.1))).trans (hHeld.2.2.2.2.2.2.2.2.2.2.1)
                              have HS11_ := (hb.cell (World.block_lt_of_cell? _ _ (hHeld.2.2.2.2.2.2.2.2.2.2.2))).trans (hHeld.2.2.2.2.2.2.2.2.2.2.2)
                              refine ⟨_, rfl, ?_⟩
                              have n0_ := Aside0.mk (Kd.R_elder' (by (with_reducible repeat (first | apply Kd.R_alloc | apply Kd.R_drewN | apply Kd.R_drew)); exact HO192.out) (Kd.R_base ho0) hb)
                              have n1_ := Aside0.mk (Kd.R_elder' (by (with_reducible repeat (first | apply Kd.R_alloc | apply Kd.R_drewN | apply Kd.R_drew)); exact HO198.out) (Kd.R_base ho0) hb)
                              have n2_ := Aside0.mk (Kd.R_elder' (by (with_reducible repeat (first | apply Kd.R_alloc | apply Kd.R_drewN | apply Kd.R_drew)); exact HO202.out) (Kd.R_base ho0) hb)
                              have n3_ := Aside0.mk (Kd.R_elder' (by (with_reducible repeat (first | apply Kd.R_alloc | apply Kd.R_drewN | apply Kd.R_drew)); exact HO206.out) (Kd.R_base ho0) hb)
                              have n4_ := Aside0.mk (Kd.R_elder' (by (with_reducible repeat (first | apply Kd.R_alloc | apply Kd.R_drewN | apply Kd.R_drew)); exact HO209.out) (Kd.R_base ho0) hb)
                              have n5_ := Aside0.mk (Kd.R_lower (Kd.R_new' (Kd.R_new' (Kd.R_new' (Kd.R_new' (Kd.R_new' ho0 (Kd.R_lt (by (with_reducible repeat (first | apply Kd.R_alloc | apply Kd.R_drewN | apply Kd.R_drew)); exact HO192.out))) (Kd.R_lt (by (with_reducible repeat (first | apply Kd.R_alloc | apply Kd.R_drewN | apply Kd.R_drew)); exact HO198.out))) (Kd.R_lt (by (with_reducible repeat (first | apply Kd.R_alloc | apply Kd.R_drewN | apply Kd.R_drew)); exact HO202.out))) (Kd.R_lt (by (with_reducible repeat (first | apply Kd.R_alloc | apply Kd.R_drewN | apply Kd.R_drew)); exact HO206.out))) (Kd.R_lt (by (with_reducible repeat (first | apply Kd.R_alloc | apply Kd.R_drewN | apply Kd.R_drew)); exact HO209.out))) (below_size (by repeat (first | (with_reducible first | exact HB.out | apply below_alloc | apply pw_below_drewN | apply below_drew1) | exact HB.out))))
                              have n6_ := Aside0.mk (below_step (by repeat (first | (with_reducible first | exact HB.out | apply below_alloc | apply pw_below_drewN | apply below_drew1) | exact HB.out)) hb)
                              clear HO192
                              clear HO198
                              clear HO202
                              clear HO206
                              clear HO209
                              clear HB
                              have HO192 := n0_
                              have HO198 := n1_
                              have HO202 := n2_
                              have HO206 := n3_
                              have HO209 := n4_
                              have HO219 := n5_
                              have HB := n6_
                              clear n0_ n1_ n2_ n3_ n4_ n5_ n6_
                              (try clear hb)
                              (try clear hb2)
                              (try clear hk)
                              (try clear hi)
                              (try clear ho0)
                              refine hK.out _ _ ⟨HS0_, HS1_, HS2_, HS3_, HS4_, HS5_, HS6_, HS7_, HS8_, HS9_, HS10_, HS11_⟩ (fun hHeld => ?_)
                              clear hK K
                              refine norm_ (a' := ?_) ?_ ?_
                              rotate_left
                              · show Act.put _ (some 58) _ = _
                                simp only [Act.put, List.setIfInBounds_toArray, List.set_cons_zero, List.set_cons_succ, i64_w, i32_w]
                                rfl
                              refine pure_ (i := 11) (N := some 47) (v := ?_) (a' := ?_) #[true, true, true, true, true, true, true, true, true, true, true, true, false, false, false, false] rfl rfl (any_of HT_.out (by kernel_rfl)) (fun _ _ _ h => h) (Or.inl ⟨by rfl, ?_⟩) ?_ ?_
                              rotate_left
                              · intro w'
                                go_simp
                                with_reducible rfl
                              rotate_left
                              · simp only [Act.put, List.setIfInBounds_toArray, List.set_cons_zero, List.set_cons_succ, i64_w, i32_w]
                                rfl
                              refine pure_ (i := 12) (N := some 59) (v := ?_) (a' := ?_) #[true, true, true, true, true, true, true, true, true, true, true, true, true, false, false, false] rfl rfl (any_of HT_.out (by kernel_rfl)) (fun _ _ _ h => h) (Or.inl ⟨by rfl, ?_⟩) ?_ ?_
                              rotate_left
                              · intro w'
                                go_simp
                                with_reducible rfl
                              rotate_left
                              · simp only [Act.put, List.setIfInBounds_toArray, List.set_cons_zero, List.set_cons_succ, i64_w, i32_w]
                                rfl
                              refine pure_ (i := 13) (N := some 60) (v := ?_) (a' := ?_) #[true, true, true, true, true, true, true, true, true, true, true, true, true, true, false, false] rfl rfl (any_of HT_.out (by kernel_rfl)) (fun _ _ _ h => h) (Or.inl ⟨by rfl, ?_⟩) ?_ ?_
                              rotate_left
                              · intro w'
                                go_simp
                                with_reducible rfl
                              rotate_left
                              · simp only [Act.put, List.setIfInBounds_toArray, List.set_cons_zero, List.set_cons_succ, i64_w, i32_w]
                                rfl
                              refine pure_ (i := 14) (N := some 12) (v := ?_) (a' := ?_) #[true, true, true, true, true, true, true, true, true, true, true, true, true, true, true, false] rfl rfl (any_of HT_.out (by kernel_rfl)) (fun _ _ _ h => h) (Or.inl ⟨by rfl, ?_⟩) ?_ ?_
                              rotate_left
                              · intro w'
                                go_simp
                                with_reducible rfl
                              rotate_left
                              · simp only [Act.put, List.setIfInBounds_toArray, List.set_cons_zero, List.set_cons_succ, i64_w, i32_w]
                                rfl
                              refine pure_ (i := 15) (N := some 13) (v := ?_) (a' := ?_) #[true, true, true, true, true, true, true, true, true, true, true, true, true, true, true, true] rfl rfl (any_of HT_.out (by kernel_rfl)) (fun _ _ _ h => h) (Or.inl ⟨by rfl, ?_⟩) ?_ ?_
                              rotate_left
                              · intro w'
                                go_simp
                                with_reducible rfl
                              rotate_left
                              · simp only [Act.put, List.setIfInBounds_toArray, List.set_cons_zero, List.set_cons_succ, i64_w, i32_w]
                                rfl
                              refine done_ (done_of HT_.out (by kernel_rfl)) ?_
                              try go_wp2_with (first | ((with_reducible refine gate_callee (f := 13) rfl ?_); refine goesL_ (some 62) rfl rfl Try.func13 (by kernel_rfl) rfl #[.string (⟨#[66, 78, 83, 73, 1, 0]⟩ : ByteArray)] rfl (by (try simp only [List.map_toArray, List.map_cons, List.map_nil]); first | done | rfl | (simp only [List.length_drop, List.length_take]; rfl)) ?_; (with_reducible refine (rows_Decode.calls k (⟨#[66, 78, 83, 73, 1, 0]⟩ : ByteArray) t220 t221 _ A13.out).mono ?_); rintro e w41 ⟨v222, rfl, ho0, hb⟩; refine ⟨_, rfl, ?_⟩; have n0_ := Aside0.mk (Kd.R_elder' (by (with_reducible repeat (first | apply Kd.R_alloc | apply Kd.R_drewN | apply Kd.R_drew)); exact HO192.out) (Kd.R_base ho0) hb); have n1_ := Aside0.mk (Kd.R_elder' (by (with_reducible repeat (first | apply Kd.R_alloc | apply Kd.R_drewN | apply Kd.R_drew)); exact HO198.out) (Kd.R_base ho0) hb); have n2_ := Aside0.mk (Kd.R_elder' (by (with_reducible repeat (first | apply Kd.R_alloc | apply Kd.R_drewN | apply Kd.R_drew)); exact HO202.out) (Kd.R_base ho0) hb); have n3_ := Aside0.mk (Kd.R_elder' (by (with_reducible repeat (first | apply Kd.R_alloc | apply Kd.R_drewN | apply Kd.R_drew)); exact HO206.out) (Kd.R_base ho0) hb); have n4_ := Aside0.mk (Kd.R_elder' (by (with_reducible repeat (first | apply Kd.R_alloc | apply Kd.R_drewN | apply Kd.R_drew)); exact HO209.out) (Kd.R_base ho0) hb); have n5_ := Aside0.mk (Kd.R_elder' (by (with_reducible repeat (first | apply Kd.R_alloc | apply Kd.R_drewN | apply Kd.R_drew)); exact HO219.out) (Kd.R_base ho0) hb); have n6_ := Aside0.mk (Kd.R_lower (Kd.R_new' (Kd.R_new' (Kd.R_new' (Kd.R_new' (Kd.R_new' (Kd.R_new' ho0 (Kd.R_lt (by (with_reducible repeat (first | apply Kd.R_alloc | apply Kd.R_drewN | apply Kd.R_drew)); exact HO192.out))) (Kd.R_lt (by (with_reducible repeat (first | apply Kd.R_alloc | apply Kd.R_drewN | apply Kd.R_drew)); exact HO198.out))) (Kd.R_lt (by (with_reducible repeat (first | apply Kd.R_alloc | apply Kd.R_drewN | apply Kd.R_drew)); exact HO202.out))) (Kd.R_lt (by (with_reducible repeat (first | apply Kd.R_alloc | apply Kd.R_drewN | apply Kd.R_drew)); exact HO206.out))) (Kd.R_lt (by (with_reducible repeat (first | apply Kd.R_alloc | apply Kd.R_drewN | apply Kd.R_drew)); exact HO209.out))) (Kd.R_lt (by (with_reducible repeat (first | apply Kd.R_alloc | apply Kd.R_drewN | apply Kd.R_drew)); exact HO219.out))) (below_size (by repeat (first | (with_reducible first | exact HB.out | apply below_alloc | apply pw_below_drewN | apply below_drew1) | exact HB.out)))); have n7_ := Aside0.mk (below_step (by repeat (first | (with_reducible first | exact HB.out | apply below_alloc | apply pw_below_drewN | apply below_drew1) | exact HB.out)) hb); clear HO192; clear HO198; clear HO202; clear HO206; clear HO209; clear HO219; clear HB; have HO192 := n0_; have HO198 := n1_; have HO202 := n2_; have HO206 := n3_; have HO209 := n4_; have HO219 := n5_; have HO223 := n6_; have HB := n7_; clear n0_ n1_ n2_ n3_ n4_ n5_ n6_ n7_; (try clear hb); (try clear hb2); (try clear hk); (try clear hi); (try clear ho0)) | ((with_reducible refine gate_callee (f := 13) rfl ?_); refine goesL_ (some 66) rfl rfl Try.func13 (by kernel_rfl) rfl #[.string (⟨#[66, 78, 83, 88]⟩ : ByteArray)] rfl (by (try simp only [List.map_toArray, List.map_cons, List.map_nil]); first | done | rfl | (simp only [List.length_drop, List.length_take]; rfl)) ?_; (with_reducible refine (rows_Decode.calls k (⟨#[66, 78, 83, 88]⟩ : ByteArray) t224 t225 _ A14.out).mono ?_); rintro e w42 ⟨v226, rfl, ho0, hb⟩; refine ⟨_, rfl, ?_⟩; have n0_ := Aside0.mk (Kd.R_elder' (by (with_reducible repeat (first | apply Kd.R_alloc | apply Kd.R_drewN | apply Kd.R_drew)); exact HO192.out) (Kd.R_base ho0) hb); have n1_ := Aside0.mk (Kd.R_elder' (by (with_reducible repeat (first | apply Kd.R_alloc | apply Kd.R_drewN | apply Kd.R_drew)); exact HO198.out) (Kd.R_base ho0) hb); have n2_ := Aside0.mk (Kd.R_elder' (by (with_reducible repeat (first | apply Kd.R_alloc | apply Kd.R_drewN | apply Kd.R_drew)); exact HO202.out) (Kd.R_base ho0) hb); have n3_ := Aside0.mk (Kd.R_elder' (by (with_reducible repeat (first | apply Kd.R_alloc | apply Kd.R_drewN | apply Kd.R_drew)); exact HO206.out) (Kd.R_base ho0) hb); have n4_ := Aside0.mk (Kd.R_elder' (by (with_reducible repeat (first | apply Kd.R_alloc | apply Kd.R_drewN | apply Kd.R_drew)); exact HO209.out) (Kd.R_base ho0) hb); have n5_ := Aside0.mk (Kd.R_elder' (by (with_reducible repeat (first | apply Kd.R_alloc | apply Kd.R_drewN | apply Kd.R_drew)); exact HO219.out) (Kd.R_base ho0) hb); have n6_ := Aside0.mk (Kd.R_elder' (by (with_reducible repeat (first | apply Kd.R_alloc | apply Kd.R_drewN | apply Kd.R_drew)); exact HO223.out) (Kd.R_base ho0) hb); have n7_ := Aside0.mk (Kd.R_lower (Kd.R_new' (Kd.R_new' (Kd.R_new' (Kd.R_new' (Kd.R_new' (Kd.R_new' (Kd.R_new' ho0 (Kd.R_lt (by (with_reducible repeat (first | apply Kd.R_alloc | apply Kd.R_drewN | apply Kd.R_drew)); exact HO192.out))) (Kd.R_lt (by (with_reducible repeat (first | apply Kd.R_alloc | apply Kd.R_drewN | apply Kd.R_drew)); exact HO198.out))) (Kd.R_lt (by (with_reducible repeat (first | apply Kd.R_alloc | apply Kd.R_drewN | apply Kd.R_drew)); exact HO202.out))) (Kd.R_lt (by (with_reducible repeat (first | apply Kd.R_alloc | apply Kd.R_drewN | apply Kd.R_drew)); exact HO206.out))) (Kd.R_lt (by (with_reducible repeat (first | apply Kd.R_alloc | apply Kd.R_drewN | apply Kd.R_drew)); exact HO209.out))) (Kd.R_lt (by (with_reducible repeat (first | apply Kd.R_alloc | apply Kd.R_drewN | apply Kd.R_drew)); exact HO219.out))) (Kd.R_lt (by (with_reducible repeat (first | apply Kd.R_alloc | apply Kd.R_drewN | apply Kd.R_drew)); exact HO223.out))) (below_size (by repeat (first | (with_reducible first | exact HB.out | apply below_alloc | apply pw_below_drewN | apply below_drew1) | exact HB.out)))); have n8_ := Aside0.mk (below_step (by repeat (first | (with_reducible first | exact HB.out | apply below_alloc | apply pw_below_drewN | apply below_drew1) | exact HB.out)) hb); clear HO192; clear HO198; clear HO202; clear HO206; clear HO209; clear HO219; clear HO223; clear HB; have HO192 := n0_; have HO198 := n1_; have HO202 := n2_; have HO206 := n3_; have HO209 := n4_; have HO219 := n5_; have HO223 := n6_; have HO227 := n7_; have HB := n8_; clear n0_ n1_ n2_ n3_ n4_ n5_ n6_ n7_ n8_; (try clear hb); (try clear hb2); (try clear hk); (try clear hi); (try clear ho0); obtain ⟨Ao43, co43, eo43⟩ := Kd.R_slice HO198.out; subst eo43) | (go_at_call 15; (with_reducible refine (bonsairef13_Same.calls k _ _ t195 _ _ y190 true _ ?side1 ?side2 ?side3 ?side4 A18.out).mono ?_); (case side1 => repeat (first | exact (Kd.R_reads' HO198.out).2.2 | (with_reducible refine Kd.C_alloc ?_ _) | (with_reducible refine Kd.C_drewN ?_ _) | (with_reducible refine Kd.C_drew ?_))); (case side2 => exact (Kd.R_reads' HO198.out).2.1); (case side3 => repeat (first | exact (Kd.R_reads' HO192.out).2.2 | (with_reducible refine Kd.C_alloc ?_ _) | (with_reducible refine Kd.C_drewN ?_ _) | (with_reducible refine Kd.C_drew ?_))); (case side4 => exact (Kd.R_reads' HO192.out).2.1); rintro e w44 ⟨rfl, hb⟩; have n0_ := Aside0.mk (Kd.R_below (by (with_reducible repeat (first | apply Kd.R_alloc | apply Kd.R_drewN | apply Kd.R_drew)); exact HO192.out) hb); have n1_ := Aside0.mk (Kd.R_below (by (with_reducible repeat (first | apply Kd.R_alloc | apply Kd.R_drewN | apply Kd.R_drew)); exact HO198.out) hb); have n2_ := Aside0.mk (Kd.R_below (by (with_reducible repeat (first | apply Kd.R_alloc | apply Kd.R_drewN | apply Kd.R_drew)); exact HO202.out) hb); have n3_ := Aside0.mk (Kd.R_below (by (with_reducible repeat (first | apply Kd.R_alloc | apply Kd.R_drewN | apply Kd.R_drew)); exact HO206.out) hb); have n4_ := Aside0.mk (Kd.R_below (by (with_reducible repeat (first | apply Kd.R_alloc | apply Kd.R_drewN | apply Kd.R_drew)); exact HO209.out) hb); have n5_ := Aside0.mk (Kd.R_below (by (with_reducible repeat (first | apply Kd.R_alloc | apply Kd.R_drewN | apply Kd.R_drew)); exact HO219.out) hb); have n6_ := Aside0.mk (Kd.R_below (by (with_reducible repeat (first | apply Kd.R_alloc | apply Kd.R_drewN | apply Kd.R_drew)); exact HO223.out) hb); have n7_ := Aside0.mk (Kd.R_below (by (with_reducible repeat (first | apply Kd.R_alloc | apply Kd.R_drewN | apply Kd.R_drew)); exact HO227.out) hb); have n8_ := Aside0.mk (below_step (by repeat (first | (with_reducible first | exact HB.out | apply below_alloc | apply pw_below_drewN | apply below_drew1) | exact HB.out)) hb); clear HO192; clear HO198; clear HO202; clear HO206; clear HO209; clear HO219; clear HO223; clear HO227; clear HB; have HO192 := n0_; have HO198 := n1_; have HO202 := n2_; have HO206 := n3_; have HO209 := n4_; have HO219 := n5_; have HO223 := n6_; have HO227 := n7_; have HB := n8_; clear n0_ n1_ n2_ n3_ n4_ n5_ n6_ n7_ n8_; (try clear hb); (try clear hb2); (try clear hk); (try clear hi); obtain ⟨Ao45, co45, eo45⟩ := Kd.R_slice HO223.out; subst eo45))
                              go_ret
                              exact ⟨by first | rfl | (simp [errW_none, errW_some] <;> rfl) | (simp [*, errW_none, errW_some] <;> rfl), by repeat (first | (with_reducible first | exact HB.out | apply below_alloc | apply pw_below_drewN | apply below_drew1) | exact HB.out)⟩
                            · rw [if_neg c25] at H
                              exact absurd H (by simp)
                          · rw [if_neg c24] at H
                            exact absurd H (by simp)
                        · rw [if_neg c23] at H
                          exact absurd H (by simp)
                      · rw [if_neg c22] at H
                        exact absurd H (by simp)
                    · rw [if_neg c21] at H
                      exact absurd H (by simp)
                  · rw [if_neg c20] at H
                    exact absurd H (by simp)
                · replace c19 := Bool.eq_false_iff.mpr c19
                  subst c19
                  have H1 : (none) = some r := by rw [if_neg (show ¬ (false = true) by decide)] at H; exact H
                  clear H
                  have H := H1
                  clear H1
                  exact absurd H (by simp)
              · rw [if_neg c17] at H
                exact absurd H (by simp)
            · rw [if_neg c16] at H
              exact absurd H (by simp)
          · rw [if_neg c15] at H
            exact absurd H (by simp)
        · rw [if_neg c11] at H
          exact absurd H (by simp)
      · rw [if_neg c9] at H
        exact absurd H (by simp)
    · rw [if_neg c7] at H
      exact absurd H (by simp)
  · rw [if_neg c4] at H
    exact absurd H (by simp)
end Go.Proofs.Ytfgnjndfnijjoaa.Print
end
section
namespace Go.Proofs.Ytfgnjndfnijjoaa.Print
open Go.RowKit Go.Proofs.YtfgnjndfnijjoaaW.PrintWords Go.Proofs.YtfgnjndfnijjoaaW.PrintLast Go.Proofs.YtfgnjndfnijjoaaW.PrintMore
attribute [local go_sem] max2_int min2_int max_two min_two max_three min_three max_four min_four
attribute [local go_sem] run_store_float
set_option linter.unusedVariables false
set_option linter.unusedSimpArgs false
def bonsairef13_Time.f (a0_0 : Int) (a0_1 : Int) : Option (Bool) := if a0_0 ≥ 1 then (if a0_0 ≤ 4611686018427387903 then (if a0_1 ≥ 1 then (some (decide (a0_1 ≤ 255))) else (some false)) else (some false)) else (some false)
set_option maxHeartbeats 8000000 in
set_option maxRecDepth 100000 in
theorem bonsairef13_Time.calls (a0_0 : Int) (a0_1 : Int) (r : Bool) (w : World) (h : bonsairef13_Time.f a0_0 a0_1 = some r) :
    Calls Try.prog 72 #[.agg #[.int .i64 a0_0, .int .i64 a0_1]] w fun e w' => e = .returned (.bool r) ∧ Below w.heap.size w w' := by
  have hu27 := Try.underlying27
  have HB := Aside0.mk (Below.refl w.heap.size w)
  have H : (if a0_0 ≥ 1 then (if a0_0 ≤ 4611686018427387903 then (if a0_1 ≥ 1 then (some (decide (a0_1 ≤ 255))) else (some false)) else (some false)) else (some false)) = some r := h
  clear h
  by_cases c2 : a0_0 ≥ 1
  · rw [if_pos c2] at H
    have c2b0 : decide (1 ≤ a0_0) = true := decide_eq_true c2
    clear c2
    by_cases c3 : a0_0 ≤ 4611686018427387903
    · rw [if_pos c3] at H
      have c3b0 : decide (a0_0 ≤ 4611686018427387903) = true := decide_eq_true c3
      clear c3
      by_cases c4 : a0_1 ≥ 1
      · rw [if_pos c4] at H
        have c4b0 : decide (1 ≤ a0_1) = true := decide_eq_true c4
        clear c4
        obtain rfl := Option.some.inj H
        go_enter Try.func72, Try.ntmps72
        go_wp2_with (first | ((with_reducible refine gate_dst (N := 1) rfl ?_); refine box_event ?hg (N := 1) ?hd (cs := #[.int .i64 a0_0, .int .i64 a0_1]) (t := 27) ?hr ?_; (case hd => rfl); (case hg => rfl); (case hr => first | (go_simp; done) | (go_simp; rfl)); intro gb253 hg w5 hbox hb; have n0_ := Aside0.mk (below_step (by repeat (first | (with_reducible first | exact HB.out | apply below_alloc | apply pw_below_drewN | apply below_drew1) | exact HB.out)) hb); have n1_ := Aside0.mk (hbox); have n2_ := Aside0.mk ((by rw [hg]; exact (below_size (by repeat (first | (with_reducible first | exact HB.out | apply below_alloc | apply pw_below_drewN | apply below_drew1) | exact HB.out))) : w.heap.size ≤ gb253)); have n3_ := Aside0.mk ((by rw [hg]; exact (below_size (by repeat (first | (with_reducible first | exact HB.out | apply below_alloc | apply pw_below_drewN | apply below_drew1) | exact HB.out))) : w.heap.size ≤ gb253)); clear HB; have HB := n0_; have BK253 := n1_; have GW253 := n2_; have GE253 := n3_; clear n0_ n1_ n2_ n3_; clear hb hbox hg; have hcz6_0 : w5.cell? ⟨gb253, 0, none⟩ = some (.int .i64 a0_0) := (blk_cell BK253.out 0).trans rfl; have hcz6_1 : w5.cell? ⟨gb253, 1, none⟩ = some (.int .i64 a0_1) := (blk_cell BK253.out 1).trans rfl; have hfz6_0 := blk_frozen BK253.out 0; have hfz6_1 := blk_frozen BK253.out 1))
        go_ret
        exact ⟨by first | rfl | (simp [errW_none, errW_some] <;> rfl) | (simp [*, errW_none, errW_some] <;> rfl), by repeat (first | (with_reducible first | exact HB.out | apply below_alloc | apply pw_below_drewN | apply below_drew1 | refine below_set ?_ GE253.out) | exact HB.out)⟩
      · rw [if_neg c4] at H
        have c4b0 : decide (1 ≤ a0_1) = false := decide_eq_false c4
        clear c4
        obtain rfl := Option.some.inj H
        go_enter Try.func72, Try.ntmps72
        go_wp2_with (first | ((with_reducible refine gate_dst (N := 1) rfl ?_); refine box_event ?hg (N := 1) ?hd (cs := #[.int .i64 a0_0, .int .i64 a0_1]) (t := 27) ?hr ?_; (case hd => rfl); (case hg => rfl); (case hr => first | (go_simp; done) | (go_simp; rfl)); intro gb253 hg w7 hbox hb; have n0_ := Aside0.mk (below_step (by repeat (first | (with_reducible first | exact HB.out | apply below_alloc | apply pw_below_drewN | apply below_drew1) | exact HB.out)) hb); have n1_ := Aside0.mk (hbox); have n2_ := Aside0.mk ((by rw [hg]; exact (below_size (by repeat (first | (with_reducible first | exact HB.out | apply below_alloc | apply pw_below_drewN | apply below_drew1) | exact HB.out))) : w.heap.size ≤ gb253)); have n3_ := Aside0.mk ((by rw [hg]; exact (below_size (by repeat (first | (with_reducible first | exact HB.out | apply below_alloc | apply pw_below_drewN | apply below_drew1) | exact HB.out))) : w.heap.size ≤ gb253)); clear HB; have HB := n0_; have BK253 := n1_; have GW253 := n2_; have GE253 := n3_; clear n0_ n1_ n2_ n3_; clear hb hbox hg; have hcz8_0 : w7.cell? ⟨gb253, 0, none⟩ = some (.int .i64 a0_0) := (blk_cell BK253.out 0).trans rfl; have hcz8_1 : w7.cell? ⟨gb253, 1, none⟩ = some (.int .i64 a0_1) := (blk_cell BK253.out 1).trans rfl; have hfz8_0 := blk_frozen BK253.out 0; have hfz8_1 := blk_frozen BK253.out 1))
        go_ret
        exact ⟨by first | rfl | (simp [errW_none, errW_some] <;> rfl) | (simp [*, errW_none, errW_some] <;> rfl), by repeat (first | (with_reducible first | exact HB.out | apply below_alloc | apply pw_below_drewN | apply below_drew1 | refine below_set ?_ GE253.out) | exact HB.out)⟩
    · rw [if_neg c3] at H
      have c3b0 : decide (a0_0 ≤ 4611686018427387903) = false := decide_eq_false c3
      clear c3
      obtain rfl := Option.some.inj H
      go_enter Try.func72, Try.ntmps72
      go_wp2_with (first | ((with_reducible refine gate_dst (N := 1) rfl ?_); refine box_event ?hg (N := 1) ?hd (cs := #[.int .i64 a0_0, .int .i64 a0_1]) (t := 27) ?hr ?_; (case hd => rfl); (case hg => rfl); (case hr => first | (go_simp; done) | (go_simp; rfl)); intro gb253 hg w9 hbox hb; have n0_ := Aside0.mk (below_step (by repeat (first | (with_reducible first | exact HB.out | apply below_alloc | apply pw_below_drewN | apply below_drew1) | exact HB.out)) hb); have n1_ := Aside0.mk (hbox); have n2_ := Aside0.mk ((by rw [hg]; exact (below_size (by repeat (first | (with_reducible first | exact HB.out | apply below_alloc | apply pw_below_drewN | apply below_drew1) | exact HB.out))) : w.heap.size ≤ gb253)); have n3_ := Aside0.mk ((by rw [hg]; exact (below_size (by repeat (first | (with_reducible first | exact HB.out | apply below_alloc | apply pw_below_drewN | apply below_drew1) | exact HB.out))) : w.heap.size ≤ gb253)); clear HB; have HB := n0_; have BK253 := n1_; have GW253 := n2_; have GE253 := n3_; clear n0_ n1_ n2_ n3_; clear hb hbox hg; have hcz10_0 : w9.cell? ⟨gb253, 0, none⟩ = some (.int .i64 a0_0) := (blk_cell BK253.out 0).trans rfl; have hcz10_1 : w9.cell? ⟨gb253, 1, none⟩ = some (.int .i64 a0_1) := (blk_cell BK253.out 1).trans rfl; have hfz10_0 := blk_frozen BK253.out 0; have hfz10_1 := blk_frozen BK253.out 1))
      go_ret
      exact ⟨by first | rfl | (simp [errW_none, errW_some] <;> rfl) | (simp [*, errW_none, errW_some] <;> rfl), by repeat (first | (with_reducible first | exact HB.out | apply below_alloc | apply pw_below_drewN | apply below_drew1 | refine below_set ?_ GE253.out) | exact HB.out)⟩
  · rw [if_neg c2] at H
    have c2b0 : decide (1 ≤ a0_0) = false := decide_eq_false c2
    clear c2
    obtain rfl := Option.some.inj H
    go_enter Try.func72, Try.ntmps72
    go_wp2_with (first | ((with_reducible refine gate_dst (N := 1) rfl ?_); refine box_event ?hg (N := 1) ?hd (cs := #[.int .i64 a0_0, .int .i64 a0_1]) (t := 27) ?hr ?_; (case hd => rfl); (case hg => rfl); (case hr => first | (go_simp; done) | (go_simp; rfl)); intro gb253 hg w11 hbox hb; have n0_ := Aside0.mk (below_step (by repeat (first | (with_reducible first | exact HB.out | apply below_alloc | apply pw_below_drewN | apply below_drew1) | exact HB.out)) hb); have n1_ := Aside0.mk (hbox); have n2_ := Aside0.mk ((by rw [hg]; exact (below_size (by repeat (first | (with_reducible first | exact HB.out | apply below_alloc | apply pw_below_drewN | apply below_drew1) | exact HB.out))) : w.heap.size ≤ gb253)); have n3_ := Aside0.mk ((by rw [hg]; exact (below_size (by repeat (first | (with_reducible first | exact HB.out | apply below_alloc | apply pw_below_drewN | apply below_drew1) | exact HB.out))) : w.heap.size ≤ gb253)); clear HB; have HB := n0_; have BK253 := n1_; have GW253 := n2_; have GE253 := n3_; clear n0_ n1_ n2_ n3_; clear hb hbox hg; have hcz12_0 : w11.cell? ⟨gb253, 0, none⟩ = some (.int .i64 a0_0) := (blk_cell BK253.out 0).trans rfl; have hcz12_1 : w11.cell? ⟨gb253, 1, none⟩ = some (.int .i64 a0_1) := (blk_cell BK253.out 1).trans rfl; have hfz12_0 := blk_frozen BK253.out 0; have hfz12_1 := blk_frozen BK253.out 1))
    go_ret
    exact ⟨by first | rfl | (simp [errW_none, errW_some] <;> rfl) | (simp [*, errW_none, errW_some] <;> rfl), by repeat (first | (with_reducible first | exact HB.out | apply below_alloc | apply pw_below_drewN | apply below_drew1 | refine below_set ?_ GE253.out) | exact HB.out)⟩
def bonsairef04_in.f (a0 : ByteArray) (a1 : Int) (a2 : Int) (a3 : Int) : Option (Bool) := if a1 < (a0.size : Int) then (if 0 ≤ a1 then (if (wrap64 (bt a0 a1)) ≥ a2 then (some (decide ((wrap64 (bt a0 a1)) ≤ a3))) else (some false)) else (none)) else (some false)
set_option maxHeartbeats 8000000 in
set_option maxRecDepth 100000 in
theorem bonsairef04_in.calls (a0 : ByteArray) (a1 : Int) (a2 : Int) (a3 : Int) (r : Bool) (w : World) (h : bonsairef04_in.f a0 a1 a2 a3 = some r) :
    Calls Try.prog 95 #[.string a0, .int .i64 a1, .int .i64 a2, .int .i64 a3] w fun e w' => e = .returned (.bool r) ∧ Drawn0 w w' := by
  have H : (if a1 < (a0.size : Int) then (if 0 ≤ a1 then (if (wrap64 (bt a0 a1)) ≥ a2 then (some (decide ((wrap64 (bt a0 a1)) ≤ a3))) else (some false)) else (none)) else (some false)) = some r := h
  clear h
  by_cases c5 : a1 < (a0.size : Int)
  · rw [if_pos c5] at H
    have c5b0 : decide (a1 < (a0.size : Int)) = true := decide_eq_true c5
    clear c5
    by_cases c6 : 0 ≤ a1
    · rw [if_pos c6] at H
      have c6b0 : decide (0 ≤ a1) = true := decide_eq_true c6
      clear c6
      by_cases c8 : (wrap64 (bt a0 a1)) ≥ a2
      · rw [if_pos c8] at H
        have c8b0 : decide (a2 ≤ (wrap64 (bt a0 a1))) = true := decide_eq_true c8
        clear c8
        obtain rfl := Option.some.inj H
        have p7 : 0 ≤ (a1 : Int) := of_decide_eq_true (by first | (with_reducible assumption) | assumption)
        have q7 : a1 < (a0.size : Int) := of_decide_eq_true (by first | (with_reducible assumption) | assumption)
        have hx7 := bt_at a0 a1
        replace p7 := eq_true p7
        replace q7 := eq_true q7
        have p9 : 0 ≤ (a1 : Int) := of_decide_eq_true (by first | (with_reducible assumption) | assumption)
        have q9 : a1 < (a0.size : Int) := of_decide_eq_true (by first | (with_reducible assumption) | assumption)
        have hx9 := bt_at a0 a1
        replace p9 := eq_true p9
        replace q9 := eq_true q9
        go_enter Try.func95, Try.ntmps95
        go_wp2
        go_ret
        exact ⟨by first | rfl | (simp; done) | (simp [*]; done), by repeat (first | exact Drawn0.refl _ | apply Drawn0.step)⟩
      · rw [if_neg c8] at H
        have c8b0 : decide (a2 ≤ (wrap64 (bt a0 a1))) = false := decide_eq_false c8
        clear c8
        obtain rfl := Option.some.inj H
        have p7 : 0 ≤ (a1 : Int) := of_decide_eq_true (by first | (with_reducible assumption) | assumption)
        have q7 : a1 < (a0.size : Int) := of_decide_eq_true (by first | (with_reducible assumption) | assumption)
        have hx7 := bt_at a0 a1
        replace p7 := eq_true p7
        replace q7 := eq_true q7
        go_enter Try.func95, Try.ntmps95
        go_wp2
        go_ret
        exact ⟨by first | rfl | (simp; done) | (simp [*]; done), by repeat (first | exact Drawn0.refl _ | apply Drawn0.step)⟩
    · rw [if_neg c6] at H
      exact absurd H (by simp)
  · rw [if_neg c5] at H
    have c5b0 : decide (a1 < (a0.size : Int)) = false := decide_eq_false c5
    clear c5
    obtain rfl := Option.some.inj H
    go_enter Try.func95, Try.ntmps95
    go_wp2
    go_ret
    exact ⟨by first | rfl | (simp; done) | (simp [*]; done), by repeat (first | exact Drawn0.refl _ | apply Drawn0.step)⟩
end Go.Proofs.Ytfgnjndfnijjoaa.Print
end
