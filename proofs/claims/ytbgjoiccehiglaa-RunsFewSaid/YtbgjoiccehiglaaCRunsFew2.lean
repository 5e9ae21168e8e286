/- Part 2 of what RunsFew stands on: merged by a program of this session out of its texts. -/
import Derived.Test.YtbgjoiccehiglaaCRunsFew1
section
namespace Go.Proofs.Ytbgjoiccehiglaa.Print
open Go.RowKit Go.Proofs.YtbgjoiccehiglaaW.PrintWords Go.Proofs.YtbgjoiccehiglaaW.PrintLast Go.Proofs.YtbgjoiccehiglaaW.PrintMore
attribute [local go_sem] max2_int min2_int max_two min_two max_three min_three max_four min_four
set_option linter.unusedVariables false
set_option linter.unusedSimpArgs false
def bonsairef06_Same.l0 : Nat → List Int → List Int → Int → Option (Bool)
  | 0, _, _, _ => none
  | k + 1, x0, x1, x5 => if x5 < (x0.length : Int) then (if 0 ≤ x5 then (if x5 < (x1.length : Int) then (if (rd x0 x5) = (rd x1 x5) then (bonsairef06_Same.l0 k x0 x1 (wrap64 (x5 + 1))) else (some false)) else (none)) else (none)) else (some true)
def bonsairef06_Same.f (k : Nat) (l0 : List Int) (l1 : List Int) : Option (Bool) := if (l0.length : Int) = (l1.length : Int) then (bonsairef06_Same.l0 k l0 l1 0) else (some false)
theorem bonsairef06_Same.mono_l : ∀ k, (∀ y0 y1 y2, LeO (bonsairef06_Same.l0 k y0 y1 y2) (bonsairef06_Same.l0 (k + 1) y0 y1 y2))
  | 0 => fun _ _ _ r h => by simp [bonsairef06_Same.l0] at h
  | k + 1 => by
    have ih0 := bonsairef06_Same.mono_l k
    · intro y0 y1 y2
      unfold bonsairef06_Same.l0
      repeat' first
      | (with_reducible exact ih0 _ _ _)
      | (with_reducible exact LeO.refl _)
      | (with_reducible exact LeO.none _)
      | (with_reducible refine LeO.ite ?_ ?_)
      | (with_reducible refine LeO.bind ?_ (fun _ => ?_))
      | exact ih0 _ _ _
      | exact LeO.none _
      | refine LeO.ite ?_ ?_
      | refine LeO.bind ?_ (fun _ => ?_)
theorem bonsairef06_Same.mono : ∀ a0 a1 k, LeO (bonsairef06_Same.f k a0 a1) (bonsairef06_Same.f (k + 1) a0 a1) := by
  intro a0 a1 k
  have ih0 := bonsairef06_Same.mono_l k
  unfold bonsairef06_Same.f
  repeat' first
      | (with_reducible exact ih0 _ _ _)
      | (with_reducible exact LeO.refl _)
      | (with_reducible exact LeO.none _)
      | (with_reducible refine LeO.ite ?_ ?_)
      | (with_reducible refine LeO.bind ?_ (fun _ => ?_))
      | exact ih0 _ _ _
      | exact LeO.none _
      | refine LeO.ite ?_ ?_
      | refine LeO.bind ?_ (fun _ => ?_)
set_option maxHeartbeats 8000000 in
set_option maxRecDepth 100000 in
theorem bonsairef06_Same.calls (k : Nat) (A0 : Option Addr) (c0 : Nat) (l0 : List Int) (A1 : Option Addr) (c1 : Nat) (l1 : List Int) (r : Bool) (w : World) (hr0 : Kd.C (Kd.int .u64) w A0 l0.length l0) (hc0 : l0.length ≤ c0) (hr1 : Kd.C (Kd.int .u64) w A1 l1.length l1) (hc1 : l1.length ≤ c1) (h : bonsairef06_Same.f k l0 l1 = some r) :
    Calls Try.prog 48 #[.slice A0 l0.length c0, .slice A1 l1.length c1] w fun e w' => e = .returned (.bool r) ∧ Drawn0 w w' := by
  have HR0 := Aside0.mk hr0
  have HC0 := Aside0.mk hc0
  clear hr0 hc0
  have HR1 := Aside0.mk hr1
  have HC1 := Aside0.mk hc1
  clear hr1 hc1
  have H : (if (l0.length : Int) = (l1.length : Int) then (bonsairef06_Same.l0 k l0 l1 0) else (some false)) = some r := h
  clear h
  by_cases c3 : (l0.length : Int) = (l1.length : Int)
  · rw [if_pos c3] at H
    have c3b0 : ((l0.length : Int) == (l1.length : Int)) = true := beq_iff_eq.mpr c3
    have c3b1 : ((l0.length : Int) != (l1.length : Int)) = false := bne_eq_false_iff_eq.mpr c3
    have c3b2 : (l0.length == l1.length) = true := by first | simpa using c3 | (simp at c3 ⊢; omega)
    clear c3
    have H' := Aside0.mk H
    clear H
    go_enter Try.func48, Try.ntmps48
    go_wp2
    repeat (go_quiet (fail); try go_wp2)
    go_loopg [5] k (fun kq v5 w' => ∃ (x5_1 : Int), v5 = .int .i64 x5_1 ∧ Aside0 (bonsairef06_Same.l0 kq l0 l1 x5_1 = some r) ∧ Aside0 (kq ≤ k) ∧ Drawn0 w w')
    case atStart => exact ⟨(0), (by first | rfl | (simp; done) | (simp [*]; done)), H', ⟨Nat.le_refl _⟩, by repeat (first | exact Drawn0.refl _ | apply Drawn0.step)⟩
    case round =>
      clear H'
      try clear c1
      try clear p2
      try clear c3
      try clear c3b0
      try clear c3b1
      try clear c3b2
      obtain ⟨x5_1, rfl, HA, HK1, ⟨m1, rfl⟩⟩ := hrel
      cases gk with
      | zero => exact absurd HA.out (by simp [bonsairef06_Same.l0])
      | succ k1 =>
        have H := HA.out
        clear HA
        simp only [bonsairef06_Same.l0] at H
        by_cases c4 : x5_1 < (l0.length : Int)
        · rw [if_pos c4] at H
          have c4b0 : decide (x5_1 < (l0.length : Int)) = true := decide_eq_true c4
          clear c4
          by_cases c5 : 0 ≤ x5_1
          · rw [if_pos c5] at H
            have c5b0 : decide (0 ≤ x5_1) = true := decide_eq_true c5
            clear c5
            by_cases c6 : x5_1 < (l1.length : Int)
            · rw [if_pos c6] at H
              have c6b0 : decide (x5_1 < (l1.length : Int)) = true := decide_eq_true c6
              clear c6
              by_cases c7 : (rd l0 x5_1) = (rd l1 x5_1)
              · rw [if_pos c7] at H
                have c7b0 : ((rd l0 x5_1) == (rd l1 x5_1)) = true := beq_iff_eq.mpr c7
                have c7b1 : ((rd l0 x5_1) != (rd l1 x5_1)) = false := bne_eq_false_iff_eq.mpr c7
                clear c7
                have H' := Aside0.mk H
                clear H
                have p301 : 0 ≤ (x5_1 : Int) := of_decide_eq_true (by first | (with_reducible assumption) | assumption)
                have q301 : x5_1 < (l0.length : Int) := of_decide_eq_true (by first | (with_reducible assumption) | assumption)
                obtain ⟨ad301, e301, hx301_0⟩ := Kd.at_int HR0.out x5_1 p301 q301
                cases e301
                replace p301 := eq_true p301
                replace q301 := eq_true q301
                have p302 : 0 ≤ (x5_1 : Int) := of_decide_eq_true (by first | (with_reducible assumption) | assumption)
                have q302 : x5_1 < (l1.length : Int) := of_decide_eq_true (by first | (with_reducible assumption) | assumption)
                obtain ⟨ad302, e302, hx302_0⟩ := Kd.at_int HR1.out x5_1 p302 q302
                cases e302
                replace p302 := eq_true p302
                replace q302 := eq_true q302
                go_wp2
                repeat (go_quiet (fail); try go_wp2)
                go_roundg k1
                case measure => have := HK1.out; omega
                case rel => exact ⟨(wrap64 (x5_1 + 1)), (by first | rfl | (simp; done) | (simp [*]; done)), H', ⟨by have := HK1.out; omega⟩, by repeat (first | exact Drawn0.refl _ | apply Drawn0.step)⟩
              · rw [if_neg c7] at H
                have c7b0 : ((rd l0 x5_1) == (rd l1 x5_1)) = false := beq_eq_false_iff_ne.mpr c7
                have c7b1 : ((rd l0 x5_1) != (rd l1 x5_1)) = true := bne_iff_ne.mpr c7
                obtain rfl := Option.some.inj H
                have p301 : 0 ≤ (x5_1 : Int) := of_decide_eq_true (by first | (with_reducible assumption) | assumption)
                have q301 : x5_1 < (l0.length : Int) := of_decide_eq_true (by first | (with_reducible assumption) | assumption)
                obtain ⟨ad301, e301, hx301_0⟩ := Kd.at_int HR0.out x5_1 p301 q301
                cases e301
                replace p301 := eq_true p301
                replace q301 := eq_true q301
                have p302 : 0 ≤ (x5_1 : Int) := of_decide_eq_true (by first | (with_reducible assumption) | assumption)
                have q302 : x5_1 < (l1.length : Int) := of_decide_eq_true (by first | (with_reducible assumption) | assumption)
                obtain ⟨ad302, e302, hx302_0⟩ := Kd.at_int HR1.out x5_1 p302 q302
                cases e302
                replace p302 := eq_true p302
                replace q302 := eq_true q302
                go_wp2
                repeat (go_quiet (fail); try go_wp2)
                go_ret
                exact ⟨by first | rfl | (simp; done) | (simp [*]; done), by repeat (first | exact Drawn0.refl _ | apply Drawn0.step)⟩
            · rw [if_neg c6] at H
              exact absurd H (by simp)
          · rw [if_neg c5] at H
            exact absurd H (by simp)
        · rw [if_neg c4] at H
          have c4b0 : decide (x5_1 < (l0.length : Int)) = false := decide_eq_false c4
          clear c4
          obtain rfl := Option.some.inj H
          go_wp2
          repeat (go_quiet (fail); try go_wp2)
          go_ret
          exact ⟨by first | rfl | (simp; done) | (simp [*]; done), by repeat (first | exact Drawn0.refl _ | apply Drawn0.step)⟩
  · rw [if_neg c3] at H
    have c3b0 : ((l0.length : Int) == (l1.length : Int)) = false := beq_eq_false_iff_ne.mpr c3
    have c3b1 : ((l0.length : Int) != (l1.length : Int)) = true := bne_iff_ne.mpr c3
    have c3b2 : (l0.length == l1.length) = false := by first | simpa using c3 | (simp at c3 ⊢; omega)
    obtain rfl := Option.some.inj H
    go_enter Try.func48, Try.ntmps48
    go_wp2
    repeat (go_quiet (fail); try go_wp2)
    go_ret
    exact ⟨by first | rfl | (simp; done) | (simp [*]; done), by repeat (first | exact Drawn0.refl _ | apply Drawn0.step)⟩
def runs_Decode.l0 : Nat → Int → List (S53) → Int → ByteArray → Int → Option (List Int × Int)
  | 0, _, _, _, _, _ => none
  | k + 1, x1, x7, x8, x306000, x306001 => (pack_Reader_Left.f x306000 x306001).bind fun bt306 => (if bt306.1 > 0 then ((pack_Reader_Num.f bt306.2.1 bt306.2.2).bind fun bt313 => ((pack_Reader_Num.f bt313.2.1 bt313.2.2).bind fun bt316 => ((pack_Reader_Err.f bt316.2.1 bt316.2.2).bind fun bt319 => (if bt319.1 = 0 then (if bt316.1 = 0 then (some (([] : List Int), 5)) else (if bt316.1 > (IntKind.u64.wrap (x8)) then (some (([] : List Int), 5)) else (if (wrap64 ((x7.length : Int) - 1)) ≥ 0 then (if 0 ≤ (wrap64 ((x7.length : Int) - 1)) then (if (wrap64 ((x7.length : Int) - 1)) < (x7.length : Int) then (if ((rd_T53 x7 (wrap64 ((x7.length : Int) - 1))).f0) = bt313.1 then (some (([] : List Int), 5)) else (if x7.length < 8796093022208 then (runs_Decode.l0 k x1 (x7 ++ [(⟨bt313.1, wrap64 (bt316.1)⟩ : S53)]) (wrap64 (x8 - (wrap64 (bt316.1)))) bt319.2.1 bt319.2.2) else (none))) else (none)) else (none)) else (if x7.length < 8796093022208 then (runs_Decode.l0 k x1 (x7 ++ [(⟨bt313.1, wrap64 (bt316.1)⟩ : S53)]) (wrap64 (x8 - (wrap64 (bt316.1)))) bt319.2.1 bt319.2.2) else (none))))) else (some (([] : List Int), bt319.1)))))) else (if x8 > 0 then (some (([] : List Int), 5)) else ((runs_Spread.f k x7 x1).bind fun bt309 => (some (bt309.1, 0)))))
def runs_Decode.f (k : Nat) (a0 : ByteArray) (a1 : Int) : Option (List Int × Int) := if a1 < 0 then (some (([] : List Int), 1)) else (if a1 > 4096 then (some (([] : List Int), 10)) else ((pack_New.f a0).bind fun bt303 => (runs_Decode.l0 k a1 ([] : List (S53)) a1 bt303.1 bt303.2)))
theorem runs_Decode.mono_l : ∀ k, (∀ y0 y1 y2 y3 y4, LeO (runs_Decode.l0 k y0 y1 y2 y3 y4) (runs_Decode.l0 (k + 1) y0 y1 y2 y3 y4))
  | 0 => fun _ _ _ _ _ r h => by simp [runs_Decode.l0] at h
  | k + 1 => by
    have ih0 := runs_Decode.mono_l k
    · intro y0 y1 y2 y3 y4
      unfold runs_Decode.l0
      repeat' first
      | (with_reducible exact ih0 _ _ _ _ _)
      | (with_reducible exact runs_Spread.mono _ _ _)
      | (with_reducible exact LeO.refl _)
      | (with_reducible exact LeO.none _)
      | (with_reducible refine LeO.ite ?_ ?_)
      | (with_reducible refine LeO.bind ?_ (fun _ => ?_))
      | exact ih0 _ _ _ _ _
      | exact runs_Spread.mono _ _ _
      | exact LeO.none _
      | refine LeO.ite ?_ ?_
      | refine LeO.bind ?_ (fun _ => ?_)
theorem runs_Decode.mono : ∀ a0 a1 k, LeO (runs_Decode.f k a0 a1) (runs_Decode.f (k + 1) a0 a1) := by
  intro a0 a1 k
  have ih0 := runs_Decode.mono_l k
  unfold runs_Decode.f
  repeat' first
      | (with_reducible exact ih0 _ _ _ _ _)
      | (with_reducible exact runs_Spread.mono _ _ _)
      | (with_reducible exact LeO.refl _)
      | (with_reducible exact LeO.none _)
      | (with_reducible refine LeO.ite ?_ ?_)
      | (with_reducible refine LeO.bind ?_ (fun _ => ?_))
      | exact ih0 _ _ _ _ _
      | exact runs_Spread.mono _ _ _
      | exact LeO.none _
      | refine LeO.ite ?_ ?_
      | refine LeO.bind ?_ (fun _ => ?_)
set_option maxHeartbeats 8000000 in
set_option maxRecDepth 100000 in
theorem runs_Decode.calls (k : Nat) (a0 : ByteArray) (a1 : Int) (r1 : List Int) (r2 : Int) (w : World) (h : runs_Decode.f k a0 a1 = some (r1, r2)) :
    Calls Try.prog 49 #[.string a0, .int .i64 a1] w fun e w' => ∃ v0_ : Value, e = .returned (.tuple #[v0_, .int .i64 r2]) ∧ Kd.R (Kd.int .u64) 51 w' w.heap.size (fun _ => True) v0_ r1 ∧ Below w.heap.size w w' := by
  have hu53 := Try.underlying53
  have HB := Aside0.mk (Below.refl w.heap.size w)
  have H : (if a1 < 0 then (some (([] : List Int), 1)) else (if a1 > 4096 then (some (([] : List Int), 10)) else ((pack_New.f a0).bind fun bt303 => (runs_Decode.l0 k a1 ([] : List (S53)) a1 bt303.1 bt303.2)))) = some (r1, r2) := h
  clear h
  by_cases c3 : a1 < 0
  · rw [if_pos c3] at H
    have c3b0 : decide (a1 < 0) = true := decide_eq_true c3
    clear c3
    simp only [Option.some.injEq, Prod.mk.injEq] at H
    obtain ⟨rfl, rfl⟩ := H
    go_enter Try.func49, Try.ntmps49
    go_wp2
    go_ret2
    exact ⟨_, by first | rfl | (simp [errW_none, errW_some] <;> rfl) | (simp [*, errW_none, errW_some] <;> rfl), by first | exact Kd.R_nil _ _ _ _ _ | exact Kd.N_nil _ _ _ _ _ | exact Kd.V_nil _ _ _ _ _ | exact Kd.Q_nil _ _ _ _ _ | exact Kd.S_nil _ _ _ _ _, by repeat (first | (with_reducible first | exact HB.out | apply below_alloc | apply pw_below_drewN | apply below_drew1) | exact HB.out)⟩
  · rw [if_neg c3] at H
    have c3b0 : decide (a1 < 0) = false := decide_eq_false c3
    clear c3
    by_cases c4 : a1 > 4096
    · rw [if_pos c4] at H
      have c4b0 : decide (4096 < a1) = true := decide_eq_true c4
      clear c4
      simp only [Option.some.injEq, Prod.mk.injEq] at H
      obtain ⟨rfl, rfl⟩ := H
      go_enter Try.func49, Try.ntmps49
      go_wp2
      go_ret2
      exact ⟨_, by first | rfl | (simp [errW_none, errW_some] <;> rfl) | (simp [*, errW_none, errW_some] <;> rfl), by first | exact Kd.R_nil _ _ _ _ _ | exact Kd.N_nil _ _ _ _ _ | exact Kd.V_nil _ _ _ _ _ | exact Kd.Q_nil _ _ _ _ _ | exact Kd.S_nil _ _ _ _ _, by repeat (first | (with_reducible first | exact HB.out | apply below_alloc | apply pw_below_drewN | apply below_drew1) | exact HB.out)⟩
    · rw [if_neg c4] at H
      have c4b0 : decide (4096 < a1) = false := decide_eq_false c4
      clear c4
      replace H := Option.bind_eq_some_iff.mp H
      obtain ⟨⟨t303, t304⟩, A50, H⟩ := H
      replace H : (runs_Decode.l0 k a1 ([] : List (S53)) a1 t303 t304) = some (r1, r2) := H
      have A5 := Aside0.mk A50
      clear A50
      have H' := Aside0.mk H
      clear H
      go_enter Try.func49, Try.ntmps49
      go_wp2_with (first | ((with_reducible refine gate_callee (f := 80) rfl ?_); refine goesL_ (some 22) rfl rfl Try.func80 (by kernel_rfl) rfl #[.string a0] rfl (by (try simp only [List.map_toArray, List.map_cons, List.map_nil]); first | done | rfl | (simp only [List.length_drop, List.length_take]; rfl)) ?_; (with_reducible refine (pack_New.calls a0 t303 t304 w _ ?side1 A5.out).mono ?_); (case side1 => repeat (first | (with_reducible first | exact HB.out | apply below_alloc | apply pw_below_drewN | apply below_drew1) | exact HB.out)); rintro e w6 ⟨g305, rfl, hi, hb, hb2⟩; refine ⟨_, rfl, ?_⟩; have n0_ := Aside0.mk (hb); have n1_ := Aside0.mk (hi); clear HB; have HB := n0_; have HI305 := n1_; clear n0_ n1_; (try clear hb); (try clear hb2); (try clear hk); (try clear hi)))
      go_loopg [7, 8] k (fun kq v7 v8 w' => ∃ (x7_1 : List (S53)) (x8_1 : Int) (x306000_1 : ByteArray) (x306001_1 : Int), v8 = .int .i64 x8_1 ∧ Aside0 (runs_Decode.l0 kq a1 x7_1 x8_1 x306000_1 x306001_1 = some (r1, r2)) ∧ Aside0 (kq ≤ k) ∧ Aside0 (Kd.R k53 53 w' w.heap.size (fun _ => True) v7 x7_1) ∧ Aside0 (IsS120 w w' g305 x306000_1 x306001_1) ∧ Aside0 (Below w.heap.size w w'))
      case atStart => exact ⟨(([] : List (S53))), (a1), (t303), (t304), (by first | rfl | (simp; done) | (simp [*]; done)), H', ⟨Nat.le_refl _⟩, ⟨by first | exact Kd.R_nil _ _ _ _ _ | exact Kd.N_nil _ _ _ _ _ | exact Kd.V_nil _ _ _ _ _ | exact Kd.Q_nil _ _ _ _ _ | exact Kd.S_nil _ _ _ _ _⟩, ⟨by repeat (first | (with_reducible first | exact HI305.out | apply IsS120.alloc | apply IsS120.drewN | apply IsS120.drew | apply IsS120.set_0 | apply IsS120.set_1) | exact HI305.out)⟩, ⟨by repeat (first | (with_reducible first | exact HB.out | apply below_alloc | apply pw_below_drewN | apply below_drew1 | refine below_set ?_ (IsS120.ge HI305.out)) | exact HB.out)⟩⟩
      case round =>
        clear H'
        try clear p2
        try clear c3
        try clear c3b0
        try clear c4
        try clear c4b0
        obtain ⟨x7_1, x8_1, x306000_1, x306001_1, rfl, HA, HK1, HO_7, HI305, HB⟩ := hrel
        cases gk with
        | zero => exact absurd HA.out (by simp [runs_Decode.l0])
        | succ k1 =>
          have H := HA.out
          clear HA
          simp only [runs_Decode.l0] at H
          replace H := Option.bind_eq_some_iff.mp H
          obtain ⟨⟨t306, t307, t308⟩, A70, H⟩ := H
          replace H : (if t306 > 0 then ((pack_Reader_Num.f t307 t308).bind fun bt313 => ((pack_Reader_Num.f bt313.2.1 bt313.2.2).bind fun bt316 => ((pack_Reader_Err.f bt316.2.1 bt316.2.2).bind fun bt319 => (if bt319.1 = 0 then (if bt316.1 = 0 then (some (([] : List Int), 5)) else (if bt316.1 > (IntKind.u64.wrap (x8_1)) then (some (([] : List Int), 5)) else (if (wrap64 ((x7_1.length : Int) - 1)) ≥ 0 then (if 0 ≤ (wrap64 ((x7_1.length : Int) - 1)) then (if (wrap64 ((x7_1.length : Int) - 1)) < (x7_1.length : Int) then (if ((rd_T53 x7_1 (wrap64 ((x7_1.length : Int) - 1))).f0) = bt313.1 then (some (([] : List Int), 5)) else (if x7_1.length < 8796093022208 then (runs_Decode.l0 k1 a1 (x7_1 ++ [(⟨bt313.1, wrap64 (bt316.1)⟩ : S53)]) (wrap64 (x8_1 - (wrap64 (bt316.1)))) bt319.2.1 bt319.2.2) else (none))) else (none)) else (none)) else (if x7_1.length < 8796093022208 then (runs_Decode.l0 k1 a1 (x7_1 ++ [(⟨bt313.1, wrap64 (bt316.1)⟩ : S53)]) (wrap64 (x8_1 - (wrap64 (bt316.1)))) bt319.2.1 bt319.2.2) else (none))))) else (some (([] : List Int), bt319.1)))))) else (if x8_1 > 0 then (some (([] : List Int), 5)) else ((runs_Spread.f k1 x7_1 a1).bind fun bt309 => (some (bt309.1, 0))))) = some (r1, r2) := H
          have A7 := Aside0.mk A70
          clear A70
          by_cases c8 : t306 > 0
          · rw [if_pos c8] at H
            have c8b0 : decide (0 < t306) = true := decide_eq_true c8
            clear c8
            replace H := Option.bind_eq_some_iff.mp H
            obtain ⟨⟨t313, t314, t315⟩, A90, H⟩ := H
            replace H : ((pack_Reader_Num.f t314 t315).bind fun bt316 => ((pack_Reader_Err.f bt316.2.1 bt316.2.2).bind fun bt319 => (if bt319.1 = 0 then (if bt316.1 = 0 then (some (([] : List Int), 5)) else (if bt316.1 > (IntKind.u64.wrap (x8_1)) then (some (([] : List Int), 5)) else (if (wrap64 ((x7_1.length : Int) - 1)) ≥ 0 then (if 0 ≤ (wrap64 ((x7_1.length : Int) - 1)) then (if (wrap64 ((x7_1.length : Int) - 1)) < (x7_1.length : Int) then (if ((rd_T53 x7_1 (wrap64 ((x7_1.length : Int) - 1))).f0) = t313 then (some (([] : List Int), 5)) else (if x7_1.length < 8796093022208 then (runs_Decode.l0 k1 a1 (x7_1 ++ [(⟨t313, wrap64 (bt316.1)⟩ : S53)]) (wrap64 (x8_1 - (wrap64 (bt316.1)))) bt319.2.1 bt319.2.2) else (none))) else (none)) else (none)) else (if x7_1.length < 8796093022208 then (runs_Decode.l0 k1 a1 (x7_1 ++ [(⟨t313, wrap64 (bt316.1)⟩ : S53)]) (wrap64 (x8_1 - (wrap64 (bt316.1)))) bt319.2.1 bt319.2.2) else (none))))) else (some (([] : List Int), bt319.1))))) = some (r1, r2) := H
            have A9 := Aside0.mk A90
            clear A90
            replace H := Option.bind_eq_some_iff.mp H
            obtain ⟨⟨t316, t317, t318⟩, A100, H⟩ := H
            replace H : ((pack_Reader_Err.f t317 t318).bind fun bt319 => (if bt319.1 = 0 then (if t316 = 0 then (some (([] : List Int), 5)) else (if t316 > (IntKind.u64.wrap (x8_1)) then (some (([] : List Int), 5)) else (if (wrap64 ((x7_1.length : Int) - 1)) ≥ 0 then (if 0 ≤ (wrap64 ((x7_1.length : Int) - 1)) then (if (wrap64 ((x7_1.length : Int) - 1)) < (x7_1.length : Int) then (if ((rd_T53 x7_1 (wrap64 ((x7_1.length : Int) - 1))).f0) = t313 then (some (([] : List Int), 5)) else (if x7_1.length < 8796093022208 then (runs_Decode.l0 k1 a1 (x7_1 ++ [(⟨t313, wrap64 (t316)⟩ : S53)]) (wrap64 (x8_1 - (wrap64 (t316)))) bt319.2.1 bt319.2.2) else (none))) else (none)) else (none)) else (if x7_1.length < 8796093022208 then (runs_Decode.l0 k1 a1 (x7_1 ++ [(⟨t313, wrap64 (t316)⟩ : S53)]) (wrap64 (x8_1 - (wrap64 (t316)))) bt319.2.1 bt319.2.2) else (none))))) else (some (([] : List Int), bt319.1)))) = some (r1, r2) := H
            have A10 := Aside0.mk A100
            clear A100
            replace H := Option.bind_eq_some_iff.mp H
            obtain ⟨⟨t319, t320, t321⟩, A110, H⟩ := H
            replace H : (if t319 = 0 then (if t316 = 0 then (some (([] : List Int), 5)) else (if t316 > (IntKind.u64.wrap (x8_1)) then (some (([] : List Int), 5)) else (if (wrap64 ((x7_1.length : Int) - 1)) ≥ 0 then (if 0 ≤ (wrap64 ((x7_1.length : Int) - 1)) then (if (wrap64 ((x7_1.length : Int) - 1)) < (x7_1.length : Int) then (if ((rd_T53 x7_1 (wrap64 ((x7_1.length : Int) - 1))).f0) = t313 then (some (([] : List Int), 5)) else (if x7_1.length < 8796093022208 then (runs_Decode.l0 k1 a1 (x7_1 ++ [(⟨t313, wrap64 (t316)⟩ : S53)]) (wrap64 (x8_1 - (wrap64 (t316)))) t320 t321) else (none))) else (none)) else (none)) else (if x7_1.length < 8796093022208 then (runs_Decode.l0 k1 a1 (x7_1 ++ [(⟨t313, wrap64 (t316)⟩ : S53)]) (wrap64 (x8_1 - (wrap64 (t316)))) t320 t321) else (none))))) else (some (([] : List Int), t319))) = some (r1, r2) := H
            have A11 := Aside0.mk A110
            clear A110
            by_cases c12 : t319 = 0
            · rw [if_pos c12] at H
              have c12b0 : (t319 == 0) = true := beq_iff_eq.mpr c12
              have c12b1 : (t319 != 0) = false := bne_eq_false_iff_eq.mpr c12
              clear c12
              by_cases c13 : t316 = 0
              · rw [if_pos c13] at H
                have c13b0 : (t316 == 0) = true := beq_iff_eq.mpr c13
                have c13b1 : (t316 != 0) = false := bne_eq_false_iff_eq.mpr c13
                clear c13
                simp only [Option.some.injEq, Prod.mk.injEq] at H
                obtain ⟨rfl, rfl⟩ := H
                go_wp2_with (first | ((with_reducible refine gate_callee (f := 83) rfl ?_); refine goesL_ (some 25) rfl rfl Try.func83 (by kernel_rfl) rfl #[.pointer (some ⟨g305, 0, none⟩)] rfl (by (try simp only [List.map_toArray, List.map_cons, List.map_nil]); first | done | rfl | (simp only [List.length_drop, List.length_take]; rfl)) ?_; (with_reducible refine (pack_Reader_Left.calls g305 x306000_1 x306001_1 t306 t307 t308 w _ ?side1 ?side2 A7.out).mono ?_); (case side1 => repeat (first | (with_reducible first | exact HI305.out | apply IsS120.alloc | apply IsS120.drewN | apply IsS120.drew | apply IsS120.set_0 | apply IsS120.set_1) | exact HI305.out)); (case side2 => repeat (first | (with_reducible first | exact HB.out | apply below_alloc | apply pw_below_drewN | apply below_drew1 | refine below_set ?_ (IsS120.ge HI305.out)) | exact HB.out)); rintro e w14 ⟨rfl, hi, hb, hk⟩; refine ⟨_, rfl, ?_⟩; have n0_ := Aside0.mk (Kd.R_mono (Kd.R_keep (IsS120.apart (show IsS120 w _ g305 x306000_1 x306001_1 from by repeat (first | (with_reducible first | exact HI305.out | apply IsS120.alloc | apply IsS120.drewN | apply IsS120.drew | apply IsS120.set_0 | apply IsS120.set_1) | exact HI305.out)) (by (with_reducible repeat (first | apply Kd.R_alloc | apply Kd.R_drewN | apply Kd.R_drew)); exact HO_7.out) (by decide)) hk (fun _ h => h.2)) (fun _ h => h.1)); have n1_ := Aside0.mk (hb); have n2_ := Aside0.mk (hi); clear HO_7; clear HB; clear HI305; have HO_7 := n0_; have HB := n1_; have HI305 := n2_; clear n0_ n1_ n2_; (try clear hb); (try clear hb2); (try clear hk); (try clear hi)) | ((with_reducible refine gate_callee (f := 81) rfl ?_); refine goesL_ (some 28) rfl rfl Try.func81 (by kernel_rfl) rfl #[.pointer (some ⟨g305, 0, none⟩)] rfl (by (try simp only [List.map_toArray, List.map_cons, List.map_nil]); first | done | rfl | (simp only [List.length_drop, List.length_take]; rfl)) ?_; (with_reducible refine (pack_Reader_Num.calls g305 t307 t308 t313 t314 t315 w _ ?side1 ?side2 A9.out).mono ?_); (case side1 => repeat (first | (with_reducible first | exact HI305.out | apply IsS120.alloc | apply IsS120.drewN | apply IsS120.drew | apply IsS120.set_0 | apply IsS120.set_1) | exact HI305.out)); (case side2 => repeat (first | (with_reducible first | exact HB.out | apply below_alloc | apply pw_below_drewN | apply below_drew1 | refine below_set ?_ (IsS120.ge HI305.out)) | exact HB.out)); rintro e w15 ⟨rfl, hi, hb, hk⟩; refine ⟨_, rfl, ?_⟩; have n0_ := Aside0.mk (Kd.R_mono (Kd.R_keep (IsS120.apart (show IsS120 w _ g305 t307 t308 from by repeat (first | (with_reducible first | exact HI305.out | apply IsS120.alloc | apply IsS120.drewN | apply IsS120.drew | apply IsS120.set_0 | apply IsS120.set_1) | exact HI305.out)) (by (with_reducible repeat (first | apply Kd.R_alloc | apply Kd.R_drewN | apply Kd.R_drew)); exact HO_7.out) (by decide)) hk (fun _ h => h.2)) (fun _ h => h.1)); have n1_ := Aside0.mk (hb); have n2_ := Aside0.mk (hi); clear HO_7; clear HB; clear HI305; have HO_7 := n0_; have HB := n1_; have HI305 := n2_; clear n0_ n1_ n2_; (try clear hb); (try clear hb2); (try clear hk); (try clear hi)) | ((with_reducible refine gate_callee (f := 81) rfl ?_); refine goesL_ (some 30) rfl rfl Try.func81 (by kernel_rfl) rfl #[.pointer (some ⟨g305, 0, none⟩)] rfl (by (try simp only [List.map_toArray, List.map_cons, List.map_nil]); first | done | rfl | (simp only [List.length_drop, List.length_take]; rfl)) ?_; (with_reducible refine (pack_Reader_Num.calls g305 t314 t315 t316 t317 t318 w _ ?side1 ?side2 A10.out).mono ?_); (case side1 => repeat (first | (with_reducible first | exact HI305.out | apply IsS120.alloc | apply IsS120.drewN | apply IsS120.drew | apply IsS120.set_0 | apply IsS120.set_1) | exact HI305.out)); (case side2 => repeat (first | (with_reducible first | exact HB.out | apply below_alloc | apply pw_below_drewN | apply below_drew1 | refine below_set ?_ (IsS120.ge HI305.out)) | exact HB.out)); rintro e w16 ⟨rfl, hi, hb, hk⟩; refine ⟨_, rfl, ?_⟩; have n0_ := Aside0.mk (Kd.R_mono (Kd.R_keep (IsS120.apart (show IsS120 w _ g305 t314 t315 from by repeat (first | (with_reducible first | exact HI305.out | apply IsS120.alloc | apply IsS120.drewN | apply IsS120.drew | apply IsS120.set_0 | apply IsS120.set_1) | exact HI305.out)) (by (with_reducible repeat (first | apply Kd.R_alloc | apply Kd.R_drewN | apply Kd.R_drew)); exact HO_7.out) (by decide)) hk (fun _ h => h.2)) (fun _ h => h.1)); have n1_ := Aside0.mk (hb); have n2_ := Aside0.mk (hi); clear HO_7; clear HB; clear HI305; have HO_7 := n0_; have HB := n1_; have HI305 := n2_; clear n0_ n1_ n2_; (try clear hb); (try clear hb2); (try clear hk); (try clear hi)) | ((with_reducible refine gate_callee (f := 82) rfl ?_); refine goesL_ (some 32) rfl rfl Try.func82 (by kernel_rfl) rfl #[.pointer (some ⟨g305, 0, none⟩)] rfl (by (try simp only [List.map_toArray, List.map_cons, List.map_nil]); first | done | rfl | (simp only [List.length_drop, List.length_take]; rfl)) ?_; (with_reducible refine (pack_Reader_Err.calls g305 t317 t318 t319 t320 t321 w _ ?side1 ?side2 A11.out).mono ?_); (case side1 => repeat (first | (with_reducible first | exact HI305.out | apply IsS120.alloc | apply IsS120.drewN | apply IsS120.drew | apply IsS120.set_0 | apply IsS120.set_1) | exact HI305.out)); (case side2 => repeat (first | (with_reducible first | exact HB.out | apply below_alloc | apply pw_below_drewN | apply below_drew1 | refine below_set ?_ (IsS120.ge HI305.out)) | exact HB.out)); rintro e w17 ⟨rfl, hi, hb, hk⟩; refine ⟨_, rfl, ?_⟩; have n0_ := Aside0.mk (Kd.R_mono (Kd.R_keep (IsS120.apart (show IsS120 w _ g305 t317 t318 from by repeat (first | (with_reducible first | exact HI305.out | apply IsS120.alloc | apply IsS120.drewN | apply IsS120.drew | apply IsS120.set_0 | apply IsS120.set_1) | exact HI305.out)) (by (with_reducible repeat (first | apply Kd.R_alloc | apply Kd.R_drewN | apply Kd.R_drew)); exact HO_7.out) (by decide)) hk (fun _ h => h.2)) (fun _ h => h.1)); have n1_ := Aside0.mk (hb); have n2_ := Aside0.mk (hi); clear HO_7; clear HB; clear HI305; have HO_7 := n0_; have HB := n1_; have HI305 := n2_; clear n0_ n1_ n2_; (try clear hb); (try clear hb2); (try clear hk); (try clear hi); obtain ⟨Ao18, co18, eo18⟩ := Kd.R_slice HO_7.out; subst eo18))
                go_ret2
                exact ⟨_, by first | rfl | (simp [errW_none, errW_some] <;> rfl) | (simp [*, errW_none, errW_some] <;> rfl), by first | exact Kd.R_nil _ _ _ _ _ | exact Kd.N_nil _ _ _ _ _ | exact Kd.V_nil _ _ _ _ _ | exact Kd.Q_nil _ _ _ _ _ | exact Kd.S_nil _ _ _ _ _, by repeat (first | (with_reducible first | exact HB.out | apply below_alloc | apply pw_below_drewN | apply below_drew1 | refine below_set ?_ (IsS120.ge HI305.out)) | exact HB.out)⟩
              · rw [if_neg c13] at H
                have c13b0 : (t316 == 0) = false := beq_eq_false_iff_ne.mpr c13
                have c13b1 : (t316 != 0) = true := bne_iff_ne.mpr c13
                by_cases c19 : t316 > (IntKind.u64.wrap (x8_1))
                · rw [if_pos c19] at H
                  have c19b0 : decide ((IntKind.u64.wrap (x8_1)) < t316) = true := decide_eq_true c19
                  clear c19
                  simp only [Option.some.injEq, Prod.mk.injEq] at H
                  obtain ⟨rfl, rfl⟩ := H
                  go_wp2_with (first | ((with_reducible refine gate_callee (f := 83) rfl ?_); refine goesL_ (some 25) rfl rfl Try.func83 (by kernel_rfl) rfl #[.pointer (some ⟨g305, 0, none⟩)] rfl (by (try simp only [List.map_toArray, List.map_cons, List.map_nil]); first | done | rfl | (simp only [List.length_drop, List.length_take]; rfl)) ?_; (with_reducible refine (pack_Reader_Left.calls g305 x306000_1 x306001_1 t306 t307 t308 w _ ?side1 ?side2 A7.out).mono ?_); (case side1 => repeat (first | (with_reducible first | exact HI305.out | apply IsS120.alloc | apply IsS120.drewN | apply IsS120.drew | apply IsS120.set_0 | apply IsS120.set_1) | exact HI305.out)); (case side2 => repeat (first | (with_reducible first | exact HB.out | apply below_alloc | apply pw_below_drewN | apply below_drew1 | refine below_set ?_ (IsS120.ge HI305.out)) | exact HB.out)); rintro e w20 ⟨rfl, hi, hb, hk⟩; refine ⟨_, rfl, ?_⟩; have n0_ := Aside0.mk (Kd.R_mono (Kd.R_keep (IsS120.apart (show IsS120 w _ g305 x306000_1 x306001_1 from by repeat (first | (with_reducible first | exact HI305.out | apply IsS120.alloc | apply IsS120.drewN | apply IsS120.drew | apply IsS120.set_0 | apply IsS120.set_1) | exact HI305.out)) (by (with_reducible repeat (first | apply Kd.R_alloc | apply Kd.R_drewN | apply Kd.R_drew)); exact HO_7.out) (by decide)) hk (fun _ h => h.2)) (fun _ h => h.1)); have n1_ := Aside0.mk (hb); have n2_ := Aside0.mk (hi); clear HO_7; clear HB; clear HI305; have HO_7 := n0_; have HB := n1_; have HI305 := n2_; clear n0_ n1_ n2_; (try clear hb); (try clear hb2); (try clear hk); (try clear hi)) | ((with_reducible refine gate_callee (f := 81) rfl ?_); refine goesL_ (some 28) rfl rfl Try.func81 (by kernel_rfl) rfl #[.pointer (some ⟨g305, 0, none⟩)] rfl (by (try simp only [List.map_toArray, List.map_cons, List.map_nil]); first | done | rfl | (simp only [List.length_drop, List.length_take]; rfl)) ?_; (with_reducible refine (pack_Reader_Num.calls g305 t307 t308 t313 t314 t315 w _ ?side1 ?side2 A9.out).mono ?_); (case side1 => repeat (first | (with_reducible first | exact HI305.out | apply IsS120.alloc | apply IsS120.drewN | apply IsS120.drew | apply IsS120.set_0 | apply IsS120.set_1) | exact HI305.out)); (case side2 => repeat (first | (with_reducible first | exact HB.out | apply below_alloc | apply pw_below_drewN | apply below_drew1 | refine below_set ?_ (IsS120.ge HI305.out)) | exact HB.out)); rintro e w21 ⟨rfl, hi, hb, hk⟩; refine ⟨_, rfl, ?_⟩; have n0_ := Aside0.mk (Kd.R_mono (Kd.R_keep (IsS120.apart (show IsS120 w _ g305 t307 t308 from by repeat (first | (with_reducible first | exact HI305.out | apply IsS120.alloc | apply IsS120.drewN | apply IsS120.drew | apply IsS120.set_0 | apply IsS120.set_1) | exact HI305.out)) (by (with_reducible repeat (first | apply Kd.R_alloc | apply Kd.R_drewN | apply Kd.R_drew)); exact HO_7.out) (by decide)) hk (fun _ h => h.2)) (fun _ h => h.1)); have n1_ := Aside0.mk (hb); have n2_ := Aside0.mk (hi); clear HO_7; clear HB; clear HI305; have HO_7 := n0_; have HB := n1_; have HI305 := n2_; clear n0_ n1_ n2_; (try clear hb); (try clear hb2); (try clear hk); (try clear hi)) | ((with_reducible refine gate_callee (f := 81) rfl ?_); refine goesL_ (some 30) rfl rfl Try.func81 (by kernel_rfl) rfl #[.pointer (some ⟨g305, 0, none⟩)] rfl (by (try simp only [List.map_toArray, List.map_cons, List.map_nil]); first | done | rfl | (simp only [List.length_drop, List.length_take]; rfl)) ?_; (with_reducible refine (pack_Reader_Num.calls g305 t314 t315 t316 t317 t318 w _ ?side1 ?side2 A10.out).mono ?_); (case side1 => repeat (first | (with_reducible first | exact HI305.out | apply IsS120.alloc | apply IsS120.drewN | apply IsS120.drew | apply IsS120.set_0 | apply IsS120.set_1) | exact HI305.out)); (case side2 => repeat (first | (with_reducible first | exact HB.out | apply below_alloc | apply pw_below_drewN | apply below_drew1 | refine below_set ?_ (IsS120.ge HI305.out)) | exact HB.out)); rintro e w22 ⟨rfl, hi, hb, hk⟩; refine ⟨_, rfl, ?_⟩; have n0_ := Aside0.mk (Kd.R_mono (Kd.R_keep (IsS120.apart (show IsS120 w _ g305 t314 t315 from by repeat (first | (with_reducible first | exact HI305.out | apply IsS120.alloc | apply IsS120.drewN | apply IsS120.drew | apply IsS120.set_0 | apply IsS120.set_1) | exact HI305.out)) (by (with_reducible repeat (first | apply Kd.R_alloc | apply Kd.R_drewN | apply Kd.R_drew)); exact HO_7.out) (by decide)) hk (fun _ h => h.2)) (fun _ h => h.1)); have n1_ := Aside0.mk (hb); have n2_ := Aside0.mk (hi); clear HO_7; clear HB; clear HI305; have HO_7 := n0_; have HB := n1_; have HI305 := n2_; clear n0_ n1_ n2_; (try clear hb); (try clear hb2); (try clear hk); (try clear hi)) | ((with_reducible refine gate_callee (f := 82) rfl ?_); refine goesL_ (some 32) rfl rfl Try.func82 (by kernel_rfl) rfl #[.pointer (some ⟨g305, 0, none⟩)] rfl (by (try simp only [List.map_toArray, List.map_cons, List.map_nil]); first | done | rfl | (simp only [List.length_drop, List.length_take]; rfl)) ?_; (with_reducible refine (pack_Reader_Err.calls g305 t317 t318 t319 t320 t321 w _ ?side1 ?side2 A11.out).mono ?_); (case side1 => repeat (first | (with_reducible first | exact HI305.out | apply IsS120.alloc | apply IsS120.drewN | apply IsS120.drew | apply IsS120.set_0 | apply IsS120.set_1) | exact HI305.out)); (case side2 => repeat (first | (with_reducible first | exact HB.out | apply below_alloc | apply pw_below_drewN | apply below_drew1 | refine below_set ?_ (IsS120.ge HI305.out)) | exact HB.out)); rintro e w23 ⟨rfl, hi, hb, hk⟩; refine ⟨_, rfl, ?_⟩; have n0_ := Aside0.mk (Kd.R_mono (Kd.R_keep (IsS120.apart (show IsS120 w _ g305 t317 t318 from by repeat (first | (with_reducible first | exact HI305.out | apply IsS120.alloc | apply IsS120.drewN | apply IsS120.drew | apply IsS120.set_0 | apply IsS120.set_1) | exact HI305.out)) (by (with_reducible repeat (first | apply Kd.R_alloc | apply Kd.R_drewN | apply Kd.R_drew)); exact HO_7.out) (by decide)) hk (fun _ h => h.2)) (fun _ h => h.1)); have n1_ := Aside0.mk (hb); have n2_ := Aside0.mk (hi); clear HO_7; clear HB; clear HI305; have HO_7 := n0_; have HB := n1_; have HI305 := n2_; clear n0_ n1_ n2_; (try clear hb); (try clear hb2); (try clear hk); (try clear hi); obtain ⟨Ao24, co24, eo24⟩ := Kd.R_slice HO_7.out; subst eo24))
                  go_ret2
                  exact ⟨_, by first | rfl | (simp [errW_none, errW_some] <;> rfl) | (simp [*, errW_none, errW_some] <;> rfl), by first | exact Kd.R_nil _ _ _ _ _ | exact Kd.N_nil _ _ _ _ _ | exact Kd.V_nil _ _ _ _ _ | exact Kd.Q_nil _ _ _ _ _ | exact Kd.S_nil _ _ _ _ _, by repeat (first | (with_reducible first | exact HB.out | apply below_alloc | apply pw_below_drewN | apply below_drew1 | refine below_set ?_ (IsS120.ge HI305.out)) | exact HB.out)⟩
                · rw [if_neg c19] at H
                  have c19b0 : decide ((IntKind.u64.wrap (x8_1)) < t316) = false := decide_eq_false c19
                  clear c19
                  by_cases c25 : (wrap64 ((x7_1.length : Int) - 1)) ≥ 0
                  · rw [if_pos c25] at H
                    have c25b0 : decide (0 ≤ (wrap64 ((x7_1.length : Int) - 1))) = true := decide_eq_true c25
                    clear c25
                    obtain ⟨ji26, hji26⟩ : ∃ j_ : Int, (wrap64 ((x7_1.length : Int) - 1)) = j_ := ⟨_, rfl⟩
                    replace H : (if 0 ≤ (ji26) then (if (ji26) < (x7_1.length : Int) then (if ((rd_T53 x7_1 (ji26)).f0) = t313 then (some (([] : List Int), 5)) else (if x7_1.length < 8796093022208 then (runs_Decode.l0 k1 a1 (x7_1 ++ [(⟨t313, wrap64 (t316)⟩ : S53)]) (wrap64 (x8_1 - (wrap64 (t316)))) t320 t321) else (none))) else (none)) else (none)) = some (r1, r2) := by first | (rw [hji26] at H; exact H) | (simp only [hji26] at H ⊢; exact H)
                    (try rw [hji26] at c25b0)
                    (try rw [hji26] at A7)
                    (try rw [hji26] at A9)
                    (try rw [hji26] at A10)
                    (try rw [hji26] at A11)
                    have hji26w : (IntKind.i64.wrap ((x7_1.length : Int) - 1)) = ji26 := (i64_w _).trans hji26
                    by_cases c27 : 0 ≤ (ji26)
                    · rw [if_pos c27] at H
                      have c27b0 : decide (0 ≤ (ji26)) = true := decide_eq_true c27
                      clear c27
                      by_cases c28 : (ji26) < (x7_1.length : Int)
                      · rw [if_pos c28] at H
                        have c28b0 : decide ((ji26) < (x7_1.length : Int)) = true := decide_eq_true c28
                        clear c28
                        by_cases c29 : ((rd_T53 x7_1 (ji26)).f0) = t313
                        · rw [if_pos c29] at H
                          have c29b0 : (((rd_T53 x7_1 (ji26)).f0) == t313) = true := beq_iff_eq.mpr c29
                          have c29b1 : (((rd_T53 x7_1 (ji26)).f0) != t313) = false := bne_eq_false_iff_eq.mpr c29
                          clear c29
                          simp only [Option.some.injEq, Prod.mk.injEq] at H
                          obtain ⟨rfl, rfl⟩ := H
                          go_wp2_with (first | ((with_reducible refine gate_callee (f := 83) rfl ?_); refine goesL_ (some 25) rfl rfl Try.func83 (by kernel_rfl) rfl #[.pointer (some ⟨g305, 0, none⟩)] rfl (by (try simp only [List.map_toArray, List.map_cons, List.map_nil]); first | done | rfl | (simp only [List.length_drop, List.length_take]; rfl)) ?_; (with_reducible refine (pack_Reader_Left.calls g305 x306000_1 x306001_1 t306 t307 t308 w _ ?side1 ?side2 A7.out).mono ?_); (case side1 => repeat (first | (with_reducible first | exact HI305.out | apply IsS120.alloc | apply IsS120.drewN | apply IsS120.drew | apply IsS120.set_0 | apply IsS120.set_1) | exact HI305.out)); (case side2 => repeat (first | (with_reducible first | exact HB.out | apply below_alloc | apply pw_below_drewN | apply below_drew1 | refine below_set ?_ (IsS120.ge HI305.out)) | exact HB.out)); rintro e w30 ⟨rfl, hi, hb, hk⟩; refine ⟨_, rfl, ?_⟩; have n0_ := Aside0.mk (Kd.R_mono (Kd.R_keep (IsS120.apart (show IsS120 w _ g305 x306000_1 x306001_1 from by repeat (first | (with_reducible first | exact HI305.out | apply IsS120.alloc | apply IsS120.drewN | apply IsS120.drew | apply IsS120.set_0 | apply IsS120.set_1) | exact HI305.out)) (by (with_reducible repeat (first | apply Kd.R_alloc | apply Kd.R_drewN | apply Kd.R_drew)); exact HO_7.out) (by decide)) hk (fun _ h => h.2)) (fun _ h => h.1)); have n1_ := Aside0.mk (hb); have n2_ := Aside0.mk (hi); clear HO_7; clear HB; clear HI305; have HO_7 := n0_; have HB := n1_; have HI305 := n2_; clear n0_ n1_ n2_; (try clear hb); (try clear hb2); (try clear hk); (try clear hi)) | ((with_reducible refine gate_callee (f := 81) rfl ?_); refine goesL_ (some 28) rfl rfl Try.func81 (by kernel_rfl) rfl #[.pointer (some ⟨g305, 0, none⟩)] rfl (by (try simp only [List.map_toArray, List.map_cons, List.map_nil]); first | done | rfl | (simp only [List.length_drop, List.length_take]; rfl)) ?_; (with_reducible refine (pack_Reader_Num.calls g305 t307 t308 t313 t314 t315 w _ ?side1 ?side2 A9.out).mono ?_); (case side1 => repeat (first | (with_reducible first | exact HI305.out | apply IsS120.alloc | apply IsS120.drewN | apply IsS120.drew | apply IsS120.set_0 | apply IsS120.set_1) | exact HI305.out)); (case side2 => repeat (first | (with_reducible first | exact HB.out | apply below_alloc | apply pw_below_drewN | apply below_drew1 | refine below_set ?_ (IsS120.ge HI305.out)) | exact HB.out)); rintro e w31 ⟨rfl, hi, hb, hk⟩; refine ⟨_, rfl, ?_⟩; have n0_ := Aside0.mk (Kd.R_mono (Kd.R_keep (IsS120.apart (show IsS120 w _ g305 t307 t308 from by repeat (first | (with_reducible first | exact HI305.out | apply IsS120.alloc | apply IsS120.drewN | apply IsS120.drew | apply IsS120.set_0 | apply IsS120.set_1) | exact HI305.out)) (by (with_reducible repeat (first | apply Kd.R_alloc | apply Kd.R_drewN | apply Kd.R_drew)); exact HO_7.out) (by decide)) hk (fun _ h => h.2)) (fun _ h => h.1)); have n1_ := Aside0.mk (hb); have n2_ := Aside0.mk (hi); clear HO_7; clear HB; clear HI305; have HO_7 := n0_; have HB := n1_; have HI305 := n2_; clear n0_ n1_ n2_; (try clear hb); (try clear hb2); (try clear hk); (try clear hi)) | ((with_reducible refine gate_callee (f := 81) rfl ?_); refine goesL_ (some 30) rfl rfl Try.func81 (by kernel_rfl) rfl #[.pointer (some ⟨g305, 0, none⟩)] rfl (by (try simp only [List.map_toArray, List.map_cons, List.map_nil]); first | done | rfl | (simp only [List.length_drop, List.length_take]; rfl)) ?_; (with_reducible refine (pack_Reader_Num.calls g305 t314 t315 t316 t317 t318 w _ ?side1 ?side2 A10.out).mono ?_); (case side1 => repeat (first | (with_reducible first | exact HI305.out | apply IsS120.alloc | apply IsS120.drewN | apply IsS120.drew | apply IsS120.set_0 | apply IsS120.set_1) | exact HI305.out)); (case side2 => repeat (first | (with_reducible first | exact HB.out | apply below_alloc | apply pw_below_drewN | apply below_drew1 | refine below_set ?_ (IsS120.ge HI305.out)) | exact HB.out)); rintro e w32 ⟨rfl, hi, hb, hk⟩; refine ⟨_, rfl, ?_⟩; have n0_ := Aside0.mk (Kd.R_mono (Kd.R_keep (IsS120.apart (show IsS120 w _ g305 t314 t315 from by repeat (first | (with_reducible first | exact HI305.out | apply IsS120.alloc | apply IsS120.drewN | apply IsS120.drew | apply IsS120.set_0 | apply IsS120.set_1) | exact HI305.out)) (by (with_reducible repeat (first | apply Kd.R_alloc | apply Kd.R_drewN | apply Kd.R_drew)); exact HO_7.out) (by decide)) hk (fun _ h => h.2)) (fun _ h => h.1)); have n1_ := Aside0.mk (hb); have n2_ := Aside0.mk (hi); clear HO_7; clear HB; clear HI305; have HO_7 := n0_; have HB := n1_; have HI305 := n2_; clear n0_ n1_ n2_; (try clear hb); (try clear hb2); (try clear hk); (try clear hi)) | ((with_reducible refine gate_callee (f := 82) rfl ?_); refine goesL_ (some 32) rfl rfl Try.func82 (by kernel_rfl) rfl #[.pointer (some ⟨g305, 0, none⟩)] rfl (by (try simp only [List.map_toArray, List.map_cons, List.map_nil]); first | done | rfl | (simp only [List.length_drop, List.length_take]; rfl)) ?_; (with_reducible refine (pack_Reader_Err.calls g305 t317 t318 t319 t320 t321 w _ ?side1 ?side2 A11.out).mono ?_); (case side1 => repeat (first | (with_reducible first | exact HI305.out | apply IsS120.alloc | apply IsS120.drewN | apply IsS120.drew | apply IsS120.set_0 | apply IsS120.set_1) | exact HI305.out)); (case side2 => repeat (first | (with_reducible first | exact HB.out | apply below_alloc | apply pw_below_drewN | apply below_drew1 | refine below_set ?_ (IsS120.ge HI305.out)) | exact HB.out)); rintro e w33 ⟨rfl, hi, hb, hk⟩; refine ⟨_, rfl, ?_⟩; have n0_ := Aside0.mk (Kd.R_mono (Kd.R_keep (IsS120.apart (show IsS120 w _ g305 t317 t318 from by repeat (first | (with_reducible first | exact HI305.out | apply IsS120.alloc | apply IsS120.drewN | apply IsS120.drew | apply IsS120.set_0 | apply IsS120.set_1) | exact HI305.out)) (by (with_reducible repeat (first | apply Kd.R_alloc | apply Kd.R_drewN | apply Kd.R_drew)); exact HO_7.out) (by decide)) hk (fun _ h => h.2)) (fun _ h => h.1)); have n1_ := Aside0.mk (hb); have n2_ := Aside0.mk (hi); clear HO_7; clear HB; clear HI305; have HO_7 := n0_; have HB := n1_; have HI305 := n2_; clear n0_ n1_ n2_; (try clear hb); (try clear hb2); (try clear hk); (try clear hi); obtain ⟨Ao34, co34, eo34⟩ := Kd.R_slice HO_7.out; subst eo34; have p322 : 0 ≤ ((ji26) : Int) := of_decide_eq_true (by first | (with_reducible assumption) | assumption); have q322 : (ji26) < (x7_1.length : Int) := of_decide_eq_true (by first | (with_reducible assumption) | assumption); obtain ⟨ad322, e322, hx322_0, hx322_1⟩ := at_T53 (Kd.R_reads' HO_7.out).2.2 (ji26) p322 q322; cases e322; replace p322 := eq_true p322; replace q322 := eq_true q322))
                          go_ret2
                          (try simp only [hji26])
                          exact ⟨_, by first | rfl | (simp [errW_none, errW_some] <;> rfl) | (simp only [← hji26]; first | rfl | (simp [errW_none, errW_some] <;> rfl)) | (simp [*, errW_none, errW_some] <;> rfl), by first | exact Kd.R_nil _ _ _ _ _ | exact Kd.N_nil _ _ _ _ _ | exact Kd.V_nil _ _ _ _ _ | exact Kd.Q_nil _ _ _ _ _ | exact Kd.S_nil _ _ _ _ _, by repeat (first | (with_reducible first | exact HB.out | apply below_alloc | apply pw_below_drewN | apply below_drew1 | refine below_set ?_ (IsS120.ge HI305.out)) | exact HB.out)⟩
                        · rw [if_neg c29] at H
                          have c29b0 : (((rd_T53 x7_1 (ji26)).f0) == t313) = false := beq_eq_false_iff_ne.mpr c29
                          have c29b1 : (((rd_T53 x7_1 (ji26)).f0) != t313) = true := bne_iff_ne.mpr c29
                          by_cases c35 : x7_1.length < 8796093022208
                          · rw [if_pos c35] at H
                            have LMc35 := Aside0.mk c35
                            clear c35
                            obtain ⟨y323, hy323⟩ : ∃ y_ : List (S53), y_ = (x7_1 ++ [(⟨t313, wrap64 (t316)⟩ : S53)]) := ⟨_, rfl⟩
                            replace H : (runs_Decode.l0 k1 a1 y323 (wrap64 (x8_1 - (wrap64 (t316)))) t320 t321) = some (r1, r2) := by first | (rw [hy323]; with_reducible exact H) | (have H2_ := (Option.bind_some _ _).symm.trans H; rw [hy323]; with_reducible exact H2_) | (have H2_ := (Option.bind_some _ _).symm.trans H; with_reducible exact H2_) | with_reducible exact H | (rw [hy323]; exact H) | exact H
                            have Ny323 := Aside0.mk hy323
                            clear hy323
                            have H' := Aside0.mk H
                            clear H
                            go_wp2_with (first | ((with_reducible refine gate_callee (f := 83) rfl ?_); refine goesL_ (some 25) rfl rfl Try.func83 (by kernel_rfl) rfl #[.pointer (some ⟨g305, 0, none⟩)] rfl (by (try simp only [List.map_toArray, List.map_cons, List.map_nil]); first | done | rfl | (simp only [List.length_drop, List.length_take]; rfl)) ?_; (with_reducible refine (pack_Reader_Left.calls g305 x306000_1 x306001_1 t306 t307 t308 w _ ?side1 ?side2 A7.out).mono ?_); (case side1 => repeat (first | (with_reducible first | exact HI305.out | apply IsS120.alloc | apply IsS120.drewN | apply IsS120.drew | apply IsS120.set_0 | apply IsS120.set_1) | exact HI305.out)); (case side2 => repeat (first | (with_reducible first | exact HB.out | apply below_alloc | apply pw_below_drewN | apply below_drew1 | refine below_set ?_ (IsS120.ge HI305.out)) | exact HB.out)); rintro e w36 ⟨rfl, hi, hb, hk⟩; refine ⟨_, rfl, ?_⟩; have n0_ := Aside0.mk (Kd.R_mono (Kd.R_keep (IsS120.apart (show IsS120 w _ g305 x306000_1 x306001_1 from by repeat (first | (with_reducible first | exact HI305.out | apply IsS120.alloc | apply IsS120.drewN | apply IsS120.drew | apply IsS120.set_0 | apply IsS120.set_1) | exact HI305.out)) (by (with_reducible repeat (first | apply Kd.R_alloc | apply Kd.R_drewN | apply Kd.R_drew)); exact HO_7.out) (by decide)) hk (fun _ h => h.2)) (fun _ h => h.1)); have n1_ := Aside0.mk (hb); have n2_ := Aside0.mk (hi); clear HO_7; clear HB; clear HI305; have HO_7 := n0_; have HB := n1_; have HI305 := n2_; clear n0_ n1_ n2_; (try clear hb); (try clear hb2); (try clear hk); (try clear hi)) | ((with_reducible refine gate_callee (f := 81) rfl ?_); refine goesL_ (some 28) rfl rfl Try.func81 (by kernel_rfl) rfl #[.pointer (some ⟨g305, 0, none⟩)] rfl (by (try simp only [List.map_toArray, List.map_cons, List.map_nil]); first | done | rfl | (simp only [List.length_drop, List.length_take]; rfl)) ?_; (with_reducible refine (pack_Reader_Num.calls g305 t307 t308 t313 t314 t315 w _ ?side1 ?side2 A9.out).mono ?_); (case side1 => repeat (first | (with_reducible first | exact HI305.out | apply IsS120.alloc | apply IsS120.drewN | apply IsS120.drew | apply IsS120.set_0 | apply IsS120.set_1) | exact HI305.out)); (case side2 => repeat (first | (with_reducible first | exact HB.out | apply below_alloc | apply pw_below_drewN | apply below_drew1 | refine below_set ?_ (IsS120.ge HI305.out)) | exact HB.out)); rintro e w37 ⟨rfl, hi, hb, hk⟩; refine ⟨_, rfl, ?_⟩; have n0_ := Aside0.mk (Kd.R_mono (Kd.R_keep (IsS120.apart (show IsS120 w _ g305 t307 t308 from by repeat (first | (with_reducible first | exact HI305.out | apply IsS120.alloc | apply IsS120.drewN | apply IsS120.drew | apply IsS120.set_0 | apply IsS120.set_1) | exact HI305.out)) (by (with_reducible repeat (first | apply Kd.R_alloc | apply Kd.R_drewN | apply Kd.R_drew)); exact HO_7.out) (by decide)) hk (fun _ h => h.2)) (fun _ h => h.1)); have n1_ := Aside0.mk (hb); have n2_ := Aside0.mk (hi); clear HO_7; clear HB; clear HI305; have HO_7 := n0_; have HB := n1_; have HI305 := n2_; clear n0_ n1_ n2_; (try clear hb); (try clear hb2); (try clear hk); (try clear hi)) | ((with_reducible refine gate_callee (f := 81) rfl ?_); refine goesL_ (some 30) rfl rfl Try.func81 (by kernel_rfl) rfl #[.pointer (some ⟨g305, 0, none⟩)] rfl (by (try simp only [List.map_toArray, List.map_cons, List.map_nil]); first | done | rfl | (simp only [List.length_drop, List.length_take]; rfl)) ?_; (with_reducible refine (pack_Reader_Num.calls g305 t314 t315 t316 t317 t318 w _ ?side1 ?side2 A10.out).mono ?_); (case side1 => repeat (first | (with_reducible first | exact HI305.out | apply IsS120.alloc | apply IsS120.drewN | apply IsS120.drew | apply IsS120.set_0 | apply IsS120.set_1) | exact HI305.out)); (case side2 => repeat (first | (with_reducible first | exact HB.out | apply below_alloc | apply pw_below_drewN | apply below_drew1 | refine below_set ?_ (IsS120.ge HI305.out)) | exact HB.out)); rintro e w38 ⟨rfl, hi, hb, hk⟩; refine ⟨_, rfl, ?_⟩; have n0_ := Aside0.mk (Kd.R_mono (Kd.R_keep (IsS120.apart (show IsS120 w _ g305 t314 t315 from by repeat (first | (with_reducible first | exact HI305.out | apply IsS120.alloc | apply IsS120.drewN | apply IsS120.drew | apply IsS120.set_0 | apply IsS120.set_1) | exact HI305.out)) (by (with_reducible repeat (first | apply Kd.R_alloc | apply Kd.R_drewN | apply Kd.R_drew)); exact HO_7.out) (by decide)) hk (fun _ h => h.2)) (fun _ h => h.1)); have n1_ := Aside0.mk (hb); have n2_ := Aside0.mk (hi); clear HO_7; clear HB; clear HI305; have HO_7 := n0_; have HB := n1_; have HI305 := n2_; clear n0_ n1_ n2_; (try clear hb); (try clear hb2); (try clear hk); (try clear hi)) | ((with_reducible refine gate_callee (f := 82) rfl ?_); refine goesL_ (some 32) rfl rfl Try.func82 (by kernel_rfl) rfl #[.pointer (some ⟨g305, 0, none⟩)] rfl (by (try simp only [List.map_toArray, List.map_cons, List.map_nil]); first | done | rfl | (simp only [List.length_drop, List.length_take]; rfl)) ?_; (with_reducible refine (pack_Reader_Err.calls g305 t317 t318 t319 t320 t321 w _ ?side1 ?side2 A11.out).mono ?_); (case side1 => repeat (first | (with_reducible first | exact HI305.out | apply IsS120.alloc | apply IsS120.drewN | apply IsS120.drew | apply IsS120.set_0 | apply IsS120.set_1) | exact HI305.out)); (case side2 => repeat (first | (with_reducible first | exact HB.out | apply below_alloc | apply pw_below_drewN | apply below_drew1 | refine below_set ?_ (IsS120.ge HI305.out)) | exact HB.out)); rintro e w39 ⟨rfl, hi, hb, hk⟩; refine ⟨_, rfl, ?_⟩; have n0_ := Aside0.mk (Kd.R_mono (Kd.R_keep (IsS120.apart (show IsS120 w _ g305 t317 t318 from by repeat (first | (with_reducible first | exact HI305.out | apply IsS120.alloc | apply IsS120.drewN | apply IsS120.drew | apply IsS120.set_0 | apply IsS120.set_1) | exact HI305.out)) (by (with_reducible repeat (first | apply Kd.R_alloc | apply Kd.R_drewN | apply Kd.R_drew)); exact HO_7.out) (by decide)) hk (fun _ h => h.2)) (fun _ h => h.1)); have n1_ := Aside0.mk (hb); have n2_ := Aside0.mk (hi); clear HO_7; clear HB; clear HI305; have HO_7 := n0_; have HB := n1_; have HI305 := n2_; clear n0_ n1_ n2_; (try clear hb); (try clear hb2); (try clear hk); (try clear hi); obtain ⟨Ao40, co40, eo40⟩ := Kd.R_slice HO_7.out; subst eo40; have p322 : 0 ≤ ((ji26) : Int) := of_decide_eq_true (by first | (with_reducible assumption) | assumption); have q322 : (ji26) < (x7_1.length : Int) := of_decide_eq_true (by first | (with_reducible assumption) | assumption); obtain ⟨ad322, e322, hx322_0, hx322_1⟩ := at_T53 (Kd.R_reads' HO_7.out).2.2 (ji26) p322 q322; cases e322; replace p322 := eq_true p322; replace q322 := eq_true q322) | ((with_reducible refine gate_builtin (b := .append) (xs := #[.tmp 64, .tmp 69]) rfl ?_); at_builtin; refine Kd.R_append k53 (w0 := w) w.heap.size rfl (.tmp 64) (.tmp 69) 39 53 (.agg #[(.int .u64 0), (.int .i64 0)]) 16 rfl Try.underlying39 info53 rfl (by decide) (by omega) (.slice (some ad322) x7_1.length co40) x7_1 (⟨t313, wrap64 (t316)⟩ : S53) [.int .u64 t313, .int .i64 (wrap64 (t316))] (fun _ => True) (fun _ => False) rfl rfl ?aP (fun _ hk => hk.elim) ?aF ?aO ?aB ?aS ?aL ?_; (case aP => exact k53_mkM _ _ _ (⟨t313, wrap64 (t316)⟩ : S53)); (case aB => exact (by repeat (first | (with_reducible first | exact HB.out | apply below_alloc | apply pw_below_drewN | apply below_drew1 | refine below_set ?_ (IsS120.ge HI305.out)) | exact HB.out))); (case aF => exact (fun _ _ => trivial)); (case aO => exact (by (with_reducible repeat (first | apply Kd.R_alloc | apply Kd.R_drewN | apply Kd.R_drew)); exact HO_7.out)); (case aS => exact (below_size (by repeat (first | (with_reducible first | exact HB.out | apply below_alloc | apply pw_below_drewN | apply below_drew1 | refine below_set ?_ (IsS120.ge HI305.out)) | exact HB.out)))); (case aL => have := LMc35.out; omega); intro v324 w41 ho hb hg hat; rw [← Ny323.out] at ho; have n0_ := Aside0.mk (IsS120.grown (by repeat (first | (with_reducible first | exact HI305.out | apply IsS120.alloc | apply IsS120.drewN | apply IsS120.drew | apply IsS120.set_0 | apply IsS120.set_1) | exact HI305.out)) hg (IsS120.own_ne HI305.out HO_7.out (by decide))); have n1_ := Aside0.mk (hb); have n2_ := Aside0.mk (ho); clear HI305; clear HB; clear HO_7; have HI305 := n0_; have HB := n1_; have HO325 := n2_; clear n0_ n1_ n2_; clear ho hb hg hat))
                            go_roundg k1
                            case measure => have := HK1.out; omega
                            case rel => exact ⟨(y323), (wrap64 (x8_1 - (wrap64 (t316)))), (t320), (t321), (by first | rfl | (simp; done) | (simp [*]; done)), H', ⟨by have := HK1.out; omega⟩, ⟨by (with_reducible repeat (first | apply Kd.R_alloc | apply Kd.R_drewN | apply Kd.R_drew)); exact HO325.out⟩, ⟨by repeat (first | (with_reducible first | exact HI305.out | apply IsS120.alloc | apply IsS120.drewN | apply IsS120.drew | apply IsS120.set_0 | apply IsS120.set_1) | exact HI305.out)⟩, ⟨by repeat (first | (with_reducible first | exact HB.out | apply below_alloc | apply pw_below_drewN | apply below_drew1 | refine below_set ?_ (IsS120.ge HI305.out)) | exact HB.out)⟩⟩
                          · rw [if_neg c35] at H
                            exact absurd H (by simp)
                      · rw [if_neg c28] at H
                        exact absurd H (by simp)
                    · rw [if_neg c27] at H
                      exact absurd H (by simp)
                  · rw [if_neg c25] at H
                    have c25b0 : decide (0 ≤ (wrap64 ((x7_1.length : Int) - 1))) = false := decide_eq_false c25
                    clear c25
                    by_cases c42 : x7_1.length < 8796093022208
                    · rw [if_pos c42] at H
                      have LMc42 := Aside0.mk c42
                      clear c42
                      obtain ⟨y326, hy326⟩ : ∃ y_ : List (S53), y_ = (x7_1 ++ [(⟨t313, wrap64 (t316)⟩ : S53)]) := ⟨_, rfl⟩
                      replace H : (runs_Decode.l0 k1 a1 y326 (wrap64 (x8_1 - (wrap64 (t316)))) t320 t321) = some (r1, r2) := by first | (rw [hy326]; with_reducible exact H) | (have H2_ := (Option.bind_some _ _).symm.trans H; rw [hy326]; with_reducible exact H2_) | (have H2_ := (Option.bind_some _ _).symm.trans H; with_reducible exact H2_) | with_reducible exact H | (rw [hy326]; exact H) | exact H
                      have Ny326 := Aside0.mk hy326
                      clear hy326
                      have H' := Aside0.mk H
                      clear H
                      go_wp2_with (first | ((with_reducible refine gate_callee (f := 83) rfl ?_); refine goesL_ (some 25) rfl rfl Try.func83 (by kernel_rfl) rfl #[.pointer (some ⟨g305, 0, none⟩)] rfl (by (try simp only [List.map_toArray, List.map_cons, List.map_nil]); first | done | rfl | (simp only [List.length_drop, List.length_take]; rfl)) ?_; (with_reducible refine (pack_Reader_Left.calls g305 x306000_1 x306001_1 t306 t307 t308 w _ ?side1 ?side2 A7.out).mono ?_); (case side1 => repeat (first | (with_reducible first | exact HI305.out | apply IsS120.alloc | apply IsS120.drewN | apply IsS120.drew | apply IsS120.set_0 | apply IsS120.set_1) | exact HI305.out)); (case side2 => repeat (first | (with_reducible first | exact HB.out | apply below_alloc | apply pw_below_drewN | apply below_drew1 | refine below_set ?_ (IsS120.ge HI305.out)) | exact HB.out)); rintro e w43 ⟨rfl, hi, hb, hk⟩; refine ⟨_, rfl, ?_⟩; have n0_ := Aside0.mk (Kd.R_mono (Kd.R_keep (IsS120.apart (show IsS120 w _ g305 x306000_1 x306001_1 from by repeat (first | (with_reducible first | exact HI305.out | apply IsS120.alloc | apply IsS120.drewN | apply IsS120.drew | apply IsS120.set_0 | apply IsS120.set_1) | exact HI305.out)) (by (with_reducible repeat (first | apply Kd.R_alloc | apply Kd.R_drewN | apply Kd.R_drew)); exact HO_7.out) (by decide)) hk (fun _ h => h.2)) (fun _ h => h.1)); have n1_ := Aside0.mk (hb); have n2_ := Aside0.mk (hi); clear HO_7; clear HB; clear HI305; have HO_7 := n0_; have HB := n1_; have HI305 := n2_; clear n0_ n1_ n2_; (try clear hb); (try clear hb2); (try clear hk); (try clear hi)) | ((with_reducible refine gate_callee (f := 81) rfl ?_); refine goesL_ (some 28) rfl rfl Try.func81 (by kernel_rfl) rfl #[.pointer (some ⟨g305, 0, none⟩)] rfl (by (try simp only [List.map_toArray, List.map_cons, List.map_nil]); first | done | rfl | (simp only [List.length_drop, List.length_take]; rfl)) ?_; (with_reducible refine (pack_Reader_Num.calls g305 t307 t308 t313 t314 t315 w _ ?side1 ?side2 A9.out).mono ?_); (case side1 => repeat (first | (with_reducible first | exact HI305.out | apply IsS120.alloc | apply IsS120.drewN | apply IsS120.drew | apply IsS120.set_0 | apply IsS120.set_1) | exact HI305.out)); (case side2 => repeat (first | (with_reducible first | exact HB.out | apply below_alloc | apply pw_below_drewN | apply below_drew1 | refine below_set ?_ (IsS120.ge HI305.out)) | exact HB.out)); rintro e w44 ⟨rfl, hi, hb, hk⟩; refine ⟨_, rfl, ?_⟩; have n0_ := Aside0.mk (Kd.R_mono (Kd.R_keep (IsS120.apart (show IsS120 w _ g305 t307 t308 from by repeat (first | (with_reducible first | exact HI305.out | apply IsS120.alloc | apply IsS120.drewN | apply IsS120.drew | apply IsS120.set_0 | apply IsS120.set_1) | exact HI305.out)) (by (with_reducible repeat (first | apply Kd.R_alloc | apply Kd.R_drewN | apply Kd.R_drew)); exact HO_7.out) (by decide)) hk (fun _ h => h.2)) (fun _ h => h.1)); have n1_ := Aside0.mk (hb); have n2_ := Aside0.mk (hi); clear HO_7; clear HB; clear HI305; have HO_7 := n0_; have HB := n1_; have HI305 := n2_; clear n0_ n1_ n2_; (try clear hb); (try clear hb2); (try clear hk); (try clear hi)) | ((with_reducible refine gate_callee (f := 81) rfl ?_); refine goesL_ (some 30) rfl rfl Try.func81 (by kernel_rfl) rfl #[.pointer (some ⟨g305, 0, none⟩)] rfl (by (try simp only [List.map_toArray, List.map_cons, List.map_nil]); first | done | rfl | (simp only [List.length_drop, List.length_take]; rfl)) ?_; (with_reducible refine (pack_Reader_Num.calls g305 t314 t315 t316 t317 t318 w _ ?side1 ?side2 A10.out).mono ?_); (case side1 => repeat (first | (with_reducible first | exact HI305.out | apply IsS120.alloc | apply IsS120.drewN | apply IsS120.drew | apply IsS120.set_0 | apply IsS120.set_1) | exact HI305.out)); (case side2 => repeat (first | (with_reducible first | exact HB.out | apply below_alloc | apply pw_below_drewN | apply below_drew1 | refine below_set ?_ (IsS120.ge HI305.out)) | exact HB.out)); rintro e w45 ⟨rfl, hi, hb, hk⟩; refine ⟨_, rfl, ?_⟩; have n0_ := Aside0.mk (Kd.R_mono (Kd.R_keep (IsS120.apart (show IsS120 w _ g305 t314 t315 from by repeat (first | (with_reducible first | exact HI305.out | apply IsS120.alloc | apply IsS120.drewN | apply IsS120.drew | apply IsS120.set_0 | apply IsS120.set_1) | exact HI305.out)) (by (with_reducible repeat (first | apply Kd.R_alloc | apply Kd.R_drewN | apply Kd.R_drew)); exact HO_7.out) (by decide)) hk (fun _ h => h.2)) (fun _ h => h.1)); have n1_ := Aside0.mk (hb); have n2_ := Aside0.mk (hi); clear HO_7; clear HB; clear HI305; have HO_7 := n0_; have HB := n1_; have HI305 := n2_; clear n0_ n1_ n2_; (try clear hb); (try clear hb2); (try clear hk); (try clear hi)) | ((with_reducible refine gate_callee (f := 82) rfl ?_); refine goesL_ (some 32) rfl rfl Try.func82 (by kernel_rfl) rfl #[.pointer (some ⟨g305, 0, none⟩)] rfl (by (try simp only [List.map_toArray, List.map_cons, List.map_nil]); first | done | rfl | (simp only [List.length_drop, List.length_take]; rfl)) ?_; (with_reducible refine (pack_Reader_Err.calls g305 t317 t318 t319 t320 t321 w _ ?side1 ?side2 A11.out).mono ?_); (case side1 => repeat (first | (with_reducible first | exact HI305.out | apply IsS120.alloc | apply IsS120.drewN | apply IsS120.drew | apply IsS120.set_0 | apply IsS120.set_1) | exact HI305.out)); (case side2 => repeat (first | (with_reducible first | exact HB.out | apply below_alloc | apply pw_below_drewN | apply below_drew1 | refine below_set ?_ (IsS120.ge HI305.out)) | exact HB.out)); rintro e w46 ⟨rfl, hi, hb, hk⟩; refine ⟨_, rfl, ?_⟩; have n0_ := Aside0.mk (Kd.R_mono (Kd.R_keep (IsS120.apart (show IsS120 w _ g305 t317 t318 from by repeat (first | (with_reducible first | exact HI305.out | apply IsS120.alloc | apply IsS120.drewN | apply IsS120.drew | apply IsS120.set_0 | apply IsS120.set_1) | exact HI305.out)) (by (with_reducible repeat (first | apply Kd.R_alloc | apply Kd.R_drewN | apply Kd.R_drew)); exact HO_7.out) (by decide)) hk (fun _ h => h.2)) (fun _ h => h.1)); have n1_ := Aside0.mk (hb); have n2_ := Aside0.mk (hi); clear HO_7; clear HB; clear HI305; have HO_7 := n0_; have HB := n1_; have HI305 := n2_; clear n0_ n1_ n2_; (try clear hb); (try clear hb2); (try clear hk); (try clear hi); obtain ⟨Ao47, co47, eo47⟩ := Kd.R_slice HO_7.out; subst eo47) | ((with_reducible refine gate_builtin (b := .append) (xs := #[.tmp 64, .tmp 69]) rfl ?_); at_builtin; refine Kd.R_append k53 (w0 := w) w.heap.size rfl (.tmp 64) (.tmp 69) 39 53 (.agg #[(.int .u64 0), (.int .i64 0)]) 16 rfl Try.underlying39 info53 rfl (by decide) (by omega) (.slice Ao47 x7_1.length co47) x7_1 (⟨t313, wrap64 (t316)⟩ : S53) [.int .u64 t313, .int .i64 (wrap64 (t316))] (fun _ => True) (fun _ => False) rfl rfl ?aP (fun _ hk => hk.elim) ?aF ?aO ?aB ?aS ?aL ?_; (case aP => exact k53_mkM _ _ _ (⟨t313, wrap64 (t316)⟩ : S53)); (case aB => exact (by repeat (first | (with_reducible first | exact HB.out | apply below_alloc | apply pw_below_drewN | apply below_drew1 | refine below_set ?_ (IsS120.ge HI305.out)) | exact HB.out))); (case aF => exact (fun _ _ => trivial)); (case aO => exact (by (with_reducible repeat (first | apply Kd.R_alloc | apply Kd.R_drewN | apply Kd.R_drew)); exact HO_7.out)); (case aS => exact (below_size (by repeat (first | (with_reducible first | exact HB.out | apply below_alloc | apply pw_below_drewN | apply below_drew1 | refine below_set ?_ (IsS120.ge HI305.out)) | exact HB.out)))); (case aL => have := LMc42.out; omega); intro v327 w48 ho hb hg hat; rw [← Ny326.out] at ho; have n0_ := Aside0.mk (IsS120.grown (by repeat (first | (with_reducible first | exact HI305.out | apply IsS120.alloc | apply IsS120.drewN | apply IsS120.drew | apply IsS120.set_0 | apply IsS120.set_1) | exact HI305.out)) hg (IsS120.own_ne HI305.out HO_7.out (by decide))); have n1_ := Aside0.mk (hb); have n2_ := Aside0.mk (ho); clear HI305; clear HB; clear HO_7; have HI305 := n0_; have HB := n1_; have HO328 := n2_; clear n0_ n1_ n2_; clear ho hb hg hat))
                      go_roundg k1
                      case measure => have := HK1.out; omega
                      case rel => exact ⟨(y326), (wrap64 (x8_1 - (wrap64 (t316)))), (t320), (t321), (by first | rfl | (simp; done) | (simp [*]; done)), H', ⟨by have := HK1.out; omega⟩, ⟨by (with_reducible repeat (first | apply Kd.R_alloc | apply Kd.R_drewN | apply Kd.R_drew)); exact HO328.out⟩, ⟨by repeat (first | (with_reducible first | exact HI305.out | apply IsS120.alloc | apply IsS120.drewN | apply IsS120.drew | apply IsS120.set_0 | apply IsS120.set_1) | exact HI305.out)⟩, ⟨by repeat (first | (with_reducible first | exact HB.out | apply below_alloc | apply pw_below_drewN | apply below_drew1 | refine below_set ?_ (IsS120.ge HI305.out)) | exact HB.out)⟩⟩
                    · rw [if_neg c42] at H
                      exact absurd H (by simp)
            · rw [if_neg c12] at H
              have c12b0 : (t319 == 0) = false := beq_eq_false_iff_ne.mpr c12
              have c12b1 : (t319 != 0) = true := bne_iff_ne.mpr c12
              simp only [Option.some.injEq, Prod.mk.injEq] at H
              obtain ⟨rfl, rfl⟩ := H
              go_wp2_with (first | ((with_reducible refine gate_callee (f := 83) rfl ?_); refine goesL_ (some 25) rfl rfl Try.func83 (by kernel_rfl) rfl #[.pointer (some ⟨g305, 0, none⟩)] rfl (by (try simp only [List.map_toArray, List.map_cons, List.map_nil]); first | done | rfl | (simp only [List.length_drop, List.length_take]; rfl)) ?_; (with_reducible refine (pack_Reader_Left.calls g305 x306000_1 x306001_1 t306 t307 t308 w _ ?side1 ?side2 A7.out).mono ?_); (case side1 => repeat (first | (with_reducible first | exact HI305.out | apply IsS120.alloc | apply IsS120.drewN | apply IsS120.drew | apply IsS120.set_0 | apply IsS120.set_1) | exact HI305.out)); (case side2 => repeat (first | (with_reducible first | exact HB.out | apply below_alloc | apply pw_below_drewN | apply below_drew1 | refine below_set ?_ (IsS120.ge HI305.out)) | exact HB.out)); rintro e w49 ⟨rfl, hi, hb, hk⟩; refine ⟨_, rfl, ?_⟩; have n0_ := Aside0.mk (Kd.R_mono (Kd.R_keep (IsS120.apart (show IsS120 w _ g305 x306000_1 x306001_1 from by repeat (first | (with_reducible first | exact HI305.out | apply IsS120.alloc | apply IsS120.drewN | apply IsS120.drew | apply IsS120.set_0 | apply IsS120.set_1) | exact HI305.out)) (by (with_reducible repeat (first | apply Kd.R_alloc | apply Kd.R_drewN | apply Kd.R_drew)); exact HO_7.out) (by decide)) hk (fun _ h => h.2)) (fun _ h => h.1)); have n1_ := Aside0.mk (hb); have n2_ := Aside0.mk (hi); clear HO_7; clear HB; clear HI305; have HO_7 := n0_; have HB := n1_; have HI305 := n2_; clear n0_ n1_ n2_; (try clear hb); (try clear hb2); (try clear hk); (try clear hi)) | ((with_reducible refine gate_callee (f := 81) rfl ?_); refine goesL_ (some 28) rfl rfl Try.func81 (by kernel_rfl) rfl #[.pointer (some ⟨g305, 0, none⟩)] rfl (by (try simp only [List.map_toArray, List.map_cons, List.map_nil]); first | done | rfl | (simp only [List.length_drop, List.length_take]; rfl)) ?_; (with_reducible refine (pack_Reader_Num.calls g305 t307 t308 t313 t314 t315 w _ ?side1 ?side2 A9.out).mono ?_); (case side1 => repeat (first | (with_reducible first | exact HI305.out | apply IsS120.alloc | apply IsS120.drewN | apply IsS120.drew | apply IsS120.set_0 | apply IsS120.set_1) | exact HI305.out)); (case side2 => repeat (first | (with_reducible first | exact HB.out | apply below_alloc | apply pw_below_drewN | apply below_drew1 | refine below_set ?_ (IsS120.ge HI305.out)) | exact HB.out)); rintro e w50 ⟨rfl, hi, hb, hk⟩; refine ⟨_, rfl, ?_⟩; have n0_ := Aside0.mk (Kd.R_mono (Kd.R_keep (IsS120.apart (show IsS120 w _ g305 t307 t308 from by repeat (first | (with_reducible first | exact HI305.out | apply IsS120.alloc | apply IsS120.drewN | apply IsS120.drew | apply IsS120.set_0 | apply IsS120.set_1) | exact HI305.out)) (by (with_reducible repeat (first | apply Kd.R_alloc | apply Kd.R_drewN | apply Kd.R_drew)); exact HO_7.out) (by decide)) hk (fun _ h => h.2)) (fun _ h => h.1)); have n1_ := Aside0.mk (hb); have n2_ := Aside0.mk (hi); clear HO_7; clear HB; clear HI305; have HO_7 := n0_; have HB := n1_; have HI305 := n2_; clear n0_ n1_ n2_; (try clear hb); (try clear hb2); (try clear hk); (try clear hi)) | ((with_reducible refine gate_callee (f := 81) rfl ?_); refine goesL_ (some 30) rfl rfl Try.func81 (by kernel_rfl) rfl #[.pointer (some ⟨g305, 0, none⟩)] rfl (by (try simp only [List.map_toArray, List.map_cons, List.map_nil]); first | done | rfl | (simp only [List.length_drop, List.length_take]; rfl)) ?_; (with_reducible refine (pack_Reader_Num.calls g305 t314 t315 t316 t317 t318 w _ ?side1 ?side2 A10.out).mono ?_); (case side1 => repeat (first | (with_reducible first | exact HI305.out | apply IsS120.alloc | apply IsS120.drewN | apply IsS120.drew | apply IsS120.set_0 | apply IsS120.set_1) | exact HI305.out)); (case side2 => repeat (first | (with_reducible first | exact HB.out | apply below_alloc | apply pw_below_drewN | apply below_drew1 | refine below_set ?_ (IsS120.ge HI305.out)) | exact HB.out)); rintro e w51 ⟨rfl, hi, hb, hk⟩; refine ⟨_, rfl, ?_⟩; have n0_ := Aside0.mk (Kd.R_mono (Kd.R_keep (IsS120.apart (show IsS120 w _ g305 t314 t315 from by repeat (first | (with_reducible first | exact HI305.out | apply IsS120.alloc | apply IsS120.drewN | apply IsS120.drew | apply IsS120.set_0 | apply IsS120.set_1) | exact HI305.out)) (by (with_reducible repeat (first | apply Kd.R_alloc | apply Kd.R_drewN | apply Kd.R_drew)); exact HO_7.out) (by decide)) hk (fun _ h => h.2)) (fun _ h => h.1)); have n1_ := Aside0.mk (hb); have n2_ := Aside0.mk (hi); clear HO_7; clear HB; clear HI305; have HO_7 := n0_; have HB := n1_; have HI305 := n2_; clear n0_ n1_ n2_; (try clear hb); (try clear hb2); (try clear hk); (try clear hi)) | ((with_reducible refine gate_callee (f := 82) rfl ?_); refine goesL_ (some 32) rfl rfl Try.func82 (by kernel_rfl) rfl #[.pointer (some ⟨g305, 0, none⟩)] rfl (by (try simp only [List.map_toArray, List.map_cons, List.map_nil]); first | done | rfl | (simp only [List.length_drop, List.length_take]; rfl)) ?_; (with_reducible refine (pack_Reader_Err.calls g305 t317 t318 t319 t320 t321 w _ ?side1 ?side2 A11.out).mono ?_); (case side1 => repeat (first | (with_reducible first | exact HI305.out | apply IsS120.alloc | apply IsS120.drewN | apply IsS120.drew | apply IsS120.set_0 | apply IsS120.set_1) | exact HI305.out)); (case side2 => repeat (first | (with_reducible first | exact HB.out | apply below_alloc | apply pw_below_drewN | apply below_drew1 | refine below_set ?_ (IsS120.ge HI305.out)) | exact HB.out)); rintro e w52 ⟨rfl, hi, hb, hk⟩; refine ⟨_, rfl, ?_⟩; have n0_ := Aside0.mk (Kd.R_mono (Kd.R_keep (IsS120.apart (show IsS120 w _ g305 t317 t318 from by repeat (first | (with_reducible first | exact HI305.out | apply IsS120.alloc | apply IsS120.drewN | apply IsS120.drew | apply IsS120.set_0 | apply IsS120.set_1) | exact HI305.out)) (by (with_reducible repeat (first | apply Kd.R_alloc | apply Kd.R_drewN | apply Kd.R_drew)); exact HO_7.out) (by decide)) hk (fun _ h => h.2)) (fun _ h => h.1)); have n1_ := Aside0.mk (hb); have n2_ := Aside0.mk (hi); clear HO_7; clear HB; clear HI305; have HO_7 := n0_; have HB := n1_; have HI305 := n2_; clear n0_ n1_ n2_; (try clear hb); (try clear hb2); (try clear hk); (try clear hi)))
              go_ret2
              exact ⟨_, by first | rfl | (simp [errW_none, errW_some] <;> rfl) | (simp [*, errW_none, errW_some] <;> rfl), by first | exact Kd.R_nil _ _ _ _ _ | exact Kd.N_nil _ _ _ _ _ | exact Kd.V_nil _ _ _ _ _ | exact Kd.Q_nil _ _ _ _ _ | exact Kd.S_nil _ _ _ _ _, by repeat (first | (with_reducible first | exact HB.out | apply below_alloc | apply pw_below_drewN | apply below_drew1 | refine below_set ?_ (IsS120.ge HI305.out)) | exact HB.out)⟩
          · rw [if_neg c8] at H
            have c8b0 : decide (0 < t306) = false := decide_eq_false c8
            clear c8
            by_cases c53 : x8_1 > 0
            · rw [if_pos c53] at H
              have c53b0 : decide (0 < x8_1) = true := decide_eq_true c53
              clear c53
              simp only [Option.some.injEq, Prod.mk.injEq] at H
              obtain ⟨rfl, rfl⟩ := H
              go_wp2_with (first | ((with_reducible refine gate_callee (f := 83) rfl ?_); refine goesL_ (some 25) rfl rfl Try.func83 (by kernel_rfl) rfl #[.pointer (some ⟨g305, 0, none⟩)] rfl (by (try simp only [List.map_toArray, List.map_cons, List.map_nil]); first | done | rfl | (simp only [List.length_drop, List.length_take]; rfl)) ?_; (with_reducible refine (pack_Reader_Left.calls g305 x306000_1 x306001_1 t306 t307 t308 w _ ?side1 ?side2 A7.out).mono ?_); (case side1 => repeat (first | (with_reducible first | exact HI305.out | apply IsS120.alloc | apply IsS120.drewN | apply IsS120.drew | apply IsS120.set_0 | apply IsS120.set_1) | exact HI305.out)); (case side2 => repeat (first | (with_reducible first | exact HB.out | apply below_alloc | apply pw_below_drewN | apply below_drew1 | refine below_set ?_ (IsS120.ge HI305.out)) | exact HB.out)); rintro e w54 ⟨rfl, hi, hb, hk⟩; refine ⟨_, rfl, ?_⟩; have n0_ := Aside0.mk (Kd.R_mono (Kd.R_keep (IsS120.apart (show IsS120 w _ g305 x306000_1 x306001_1 from by repeat (first | (with_reducible first | exact HI305.out | apply IsS120.alloc | apply IsS120.drewN | apply IsS120.drew | apply IsS120.set_0 | apply IsS120.set_1) | exact HI305.out)) (by (with_reducible repeat (first | apply Kd.R_alloc | apply Kd.R_drewN | apply Kd.R_drew)); exact HO_7.out) (by decide)) hk (fun _ h => h.2)) (fun _ h => h.1)); have n1_ := Aside0.mk (hb); have n2_ := Aside0.mk (hi); clear HO_7; clear HB; clear HI305; have HO_7 := n0_; have HB := n1_; have HI305 := n2_; clear n0_ n1_ n2_; (try clear hb); (try clear hb2); (try clear hk); (try clear hi)))
              go_ret2
              exact ⟨_, by first | rfl | (simp [errW_none, errW_some] <;> rfl) | (simp [*, errW_none, errW_some] <;> rfl), by first | exact Kd.R_nil _ _ _ _ _ | exact Kd.N_nil _ _ _ _ _ | exact Kd.V_nil _ _ _ _ _ | exact Kd.Q_nil _ _ _ _ _ | exact Kd.S_nil _ _ _ _ _, by repeat (first | (with_reducible first | exact HB.out | apply below_alloc | apply pw_below_drewN | apply below_drew1 | refine below_set ?_ (IsS120.ge HI305.out)) | exact HB.out)⟩
            · rw [if_neg c53] at H
              have c53b0 : decide (0 < x8_1) = false := decide_eq_false c53
              clear c53
              replace H := Option.bind_eq_some_iff.mp H
              obtain ⟨⟨t309, t310⟩, A550, H⟩ := H
              replace H : (some (t309, 0)) = some (r1, r2) := H
              have A55 := Aside0.mk A550
              clear A550
              simp only [Option.some.injEq, Prod.mk.injEq] at H
              obtain ⟨rfl, rfl⟩ := H
              go_wp2_with (first | ((with_reducible refine gate_callee (f := 83) rfl ?_); refine goesL_ (some 25) rfl rfl Try.func83 (by kernel_rfl) rfl #[.pointer (some ⟨g305, 0, none⟩)] rfl (by (try simp only [List.map_toArray, List.map_cons, List.map_nil]); first | done | rfl | (simp only [List.length_drop, List.length_take]; rfl)) ?_; (with_reducible refine (pack_Reader_Left.calls g305 x306000_1 x306001_1 t306 t307 t308 w _ ?side1 ?side2 A7.out).mono ?_); (case side1 => repeat (first | (with_reducible first | exact HI305.out | apply IsS120.alloc | apply IsS120.drewN | apply IsS120.drew | apply IsS120.set_0 | apply IsS120.set_1) | exact HI305.out)); (case side2 => repeat (first | (with_reducible first | exact HB.out | apply below_alloc | apply pw_below_drewN | apply below_drew1 | refine below_set ?_ (IsS120.ge HI305.out)) | exact HB.out)); rintro e w56 ⟨rfl, hi, hb, hk⟩; refine ⟨_, rfl, ?_⟩; have n0_ := Aside0.mk (Kd.R_mono (Kd.R_keep (IsS120.apart (show IsS120 w _ g305 x306000_1 x306001_1 from by repeat (first | (with_reducible first | exact HI305.out | apply IsS120.alloc | apply IsS120.drewN | apply IsS120.drew | apply IsS120.set_0 | apply IsS120.set_1) | exact HI305.out)) (by (with_reducible repeat (first | apply Kd.R_alloc | apply Kd.R_drewN | apply Kd.R_drew)); exact HO_7.out) (by decide)) hk (fun _ h => h.2)) (fun _ h => h.1)); have n1_ := Aside0.mk (hb); have n2_ := Aside0.mk (hi); clear HO_7; clear HB; clear HI305; have HO_7 := n0_; have HB := n1_; have HI305 := n2_; clear n0_ n1_ n2_; (try clear hb); (try clear hb2); (try clear hk); (try clear hi); obtain ⟨Ao57, co57, eo57⟩ := Kd.R_slice HO_7.out; subst eo57) | ((with_reducible refine gate_callee (f := 39) rfl ?_); refine goesL_ (some 76) rfl rfl Try.func39 (by kernel_rfl) rfl #[.slice Ao57 x7_1.length co57, .int .i64 a1] rfl (by (try simp only [List.map_toArray, List.map_cons, List.map_nil]); first | done | rfl | (simp only [List.length_drop, List.length_take]; rfl)) ?_; (with_reducible refine (runs_Spread.calls k1 _ _ x7_1 a1 t309 t310 _ ?side1 ?side2 A55.out).mono ?_); (case side1 => repeat (first | exact (Kd.R_reads' HO_7.out).2.2 | (with_reducible refine Kd.C_alloc ?_ _) | (with_reducible refine Kd.C_drewN ?_ _) | (with_reducible refine Kd.C_drew ?_))); (case side2 => exact (Kd.R_reads' HO_7.out).2.1); rintro e w58 ⟨v311, rfl, ho0, hb⟩; refine ⟨_, rfl, ?_⟩; have n0_ := Aside0.mk (Kd.R_below (by (with_reducible repeat (first | apply Kd.R_alloc | apply Kd.R_drewN | apply Kd.R_drew)); exact HO_7.out) hb); have n1_ := Aside0.mk (Kd.R_lower ho0 (below_size (by repeat (first | (with_reducible first | exact HB.out | apply below_alloc | apply pw_below_drewN | apply below_drew1 | refine below_set ?_ (IsS120.ge HI305.out)) | exact HB.out)))); have n2_ := Aside0.mk (IsS120.below (by repeat (first | (with_reducible first | exact HI305.out | apply IsS120.alloc | apply IsS120.drewN | apply IsS120.drew | apply IsS120.set_0 | apply IsS120.set_1) | exact HI305.out)) hb); have n3_ := Aside0.mk (below_step (by repeat (first | (with_reducible first | exact HB.out | apply below_alloc | apply pw_below_drewN | apply below_drew1 | refine below_set ?_ (IsS120.ge HI305.out)) | exact HB.out)) hb); clear HO_7; clear HI305; clear HB; have HO_7 := n0_; have HO312 := n1_; have HI305 := n2_; have HB := n3_; clear n0_ n1_ n2_ n3_; (try clear hb); (try clear hb2); (try clear hk); (try clear hi); (try clear ho0)))
              go_ret2
              exact ⟨_, by first | rfl | (simp [errW_none, errW_some] <;> rfl) | (simp [*, errW_none, errW_some] <;> rfl), by (with_reducible repeat (first | apply Kd.R_alloc | apply Kd.R_drewN | apply Kd.R_drew)); exact HO312.out, by repeat (first | (with_reducible first | exact HB.out | apply below_alloc | apply pw_below_drewN | apply below_drew1 | refine below_set ?_ (IsS120.ge HI305.out)) | exact HB.out)⟩
def bonsailaw06_live.f (k : Nat)  : Option (Bool) := (runs_Runs.f k (([7, 7, 0] : List Int))).bind fun t332 => ((runs_Spread.f k t332 3).bind fun bt335 => ((runs_Spread.f k t332 2).bind fun bt339 => ((runs_Encode.f k (([7, 7, 0] : List Int))).bind fun t346 => ((runs_Decode.f k t346 3).bind fun bt347 => ((runs_Decode.f k t346 2).bind fun bt351 => ((runs_Decode.f k (⟨#[7, 1, 7, 1]⟩ : ByteArray) 2).bind fun bt355 => ((runs_Decode.f k (⟨#[7]⟩ : ByteArray) 1).bind fun bt359 => ((runs_Decode.f k (⟨#[]⟩ : ByteArray) 4097).bind fun bt363 => ((bonsairef06_SameRuns.f k t332 (([(⟨7, 2⟩ : S53), (⟨0, 1⟩ : S53)] : List (S53)))).bind fun t370 => (if t370 = true then ((bonsairef06_Same.f k bt335.1 (([7, 7, 0] : List Int))).bind fun t374 => (if t374 = true then (if bt335.2 = true then (if bt339.2 = true then (none) else (if t346.toList = ([7, 2, 0, 1] : List UInt8) then ((bonsairef06_Same.f k bt347.1 bt335.1).bind fun t375 => (if t375 = true then (if bt347.2 = 0 then (if bt351.2 = 5 then (if bt355.2 = 5 then (if bt359.2 = 2 then (if bt363.2 = 10 then ((runs_May.f k t332).bind fun t376 => (if t376 = true then ((runs_May.f k (([(⟨1, 0⟩ : S53)] : List (S53)))).bind fun t380 => (some (!t380))) else (none))) else (none)) else (none)) else (none)) else (none)) else (none)) else (none))) else (none))) else (none)) else (none))) else (none)))))))))))
theorem bonsailaw06_live.mono : ∀ k, LeO (bonsailaw06_live.f k ) (bonsailaw06_live.f (k + 1) ) := by
  intro  k
  unfold bonsailaw06_live.f
  repeat' first
      | (with_reducible exact bonsairef06_Same.mono _ _ _)
      | (with_reducible exact bonsairef06_SameRuns.mono _ _ _)
      | (with_reducible exact runs_Decode.mono _ _ _)
      | (with_reducible exact runs_Encode.mono _ _)
      | (with_reducible exact runs_May.mono _ _)
      | (with_reducible exact runs_Runs.mono _ _)
      | (with_reducible exact runs_Spread.mono _ _ _)
      | (with_reducible exact LeO.refl _)
      | (with_reducible exact LeO.none _)
      | (with_reducible refine LeO.ite ?_ ?_)
      | (with_reducible refine LeO.bind ?_ (fun _ => ?_))
      | exact bonsairef06_Same.mono _ _ _
      | exact bonsairef06_SameRuns.mono _ _ _
      | exact runs_Decode.mono _ _ _
      | exact runs_Encode.mono _ _
      | exact runs_May.mono _ _
      | exact runs_Runs.mono _ _
      | exact runs_Spread.mono _ _ _
      | exact LeO.none _
      | refine LeO.ite ?_ ?_
      | refine LeO.bind ?_ (fun _ => ?_)
set_option maxHeartbeats 8000000 in
set_option maxRecDepth 100000 in
theorem bonsailaw06_live.calls (k : Nat)  (r : Bool) (w : World) (h : bonsailaw06_live.f k  = some r) :
    Calls Try.prog 38 #[] w fun e w' => e = .returned (.bool r) ∧ Below w.heap.size w w' := by
  have hu53 := Try.underlying53
  have HB := Aside0.mk (Below.refl w.heap.size w)
  have H : ((runs_Runs.f k (([7, 7, 0] : List Int))).bind fun t332 => ((runs_Spread.f k t332 3).bind fun bt335 => ((runs_Spread.f k t332 2).bind fun bt339 => ((runs_Encode.f k (([7, 7, 0] : List Int))).bind fun t346 => ((runs_Decode.f k t346 3).bind fun bt347 => ((runs_Decode.f k t346 2).bind fun bt351 => ((runs_Decode.f k (⟨#[7, 1, 7, 1]⟩ : ByteArray) 2).bind fun bt355 => ((runs_Decode.f k (⟨#[7]⟩ : ByteArray) 1).bind fun bt359 => ((runs_Decode.f k (⟨#[]⟩ : ByteArray) 4097).bind fun bt363 => ((bonsairef06_SameRuns.f k t332 (([(⟨7, 2⟩ : S53), (⟨0, 1⟩ : S53)] : List (S53)))).bind fun t370 => (if t370 = true then ((bonsairef06_Same.f k bt335.1 (([7, 7, 0] : List Int))).bind fun t374 => (if t374 = true then (if bt335.2 = true then (if bt339.2 = true then (none) else (if t346.toList = ([7, 2, 0, 1] : List UInt8) then ((bonsairef06_Same.f k bt347.1 bt335.1).bind fun t375 => (if t375 = true then (if bt347.2 = 0 then (if bt351.2 = 5 then (if bt355.2 = 5 then (if bt359.2 = 2 then (if bt363.2 = 10 then ((runs_May.f k t332).bind fun t376 => (if t376 = true then ((runs_May.f k (([(⟨1, 0⟩ : S53)] : List (S53)))).bind fun t380 => (some (!t380))) else (none))) else (none)) else (none)) else (none)) else (none)) else (none)) else (none))) else (none))) else (none)) else (none))) else (none)))))))))))) = some r := h
  clear h
  obtain ⟨y329, hy329⟩ : ∃ y_ : List Int, y_ = (([7, 7, 0] : List Int)) := ⟨_, rfl⟩
  replace H : ((runs_Runs.f k y329).bind fun t332 => ((runs_Spread.f k t332 3).bind fun bt335 => ((runs_Spread.f k t332 2).bind fun bt339 => ((runs_Encode.f k (([7, 7, 0] : List Int))).bind fun t346 => ((runs_Decode.f k t346 3).bind fun bt347 => ((runs_Decode.f k t346 2).bind fun bt351 => ((runs_Decode.f k (⟨#[7, 1, 7, 1]⟩ : ByteArray) 2).bind fun bt355 => ((runs_Decode.f k (⟨#[7]⟩ : ByteArray) 1).bind fun bt359 => ((runs_Decode.f k (⟨#[]⟩ : ByteArray) 4097).bind fun bt363 => ((bonsairef06_SameRuns.f k t332 (([(⟨7, 2⟩ : S53), (⟨0, 1⟩ : S53)] : List (S53)))).bind fun t370 => (if t370 = true then ((bonsairef06_Same.f k bt335.1 (([7, 7, 0] : List Int))).bind fun t374 => (if t374 = true then (if bt335.2 = true then (if bt339.2 = true then (none) else (if t346.toList = ([7, 2, 0, 1] : List UInt8) then ((bonsairef06_Same.f k bt347.1 bt335.1).bind fun t375 => (if t375 = true then (if bt347.2 = 0 then (if bt351.2 = 5 then (if bt355.2 = 5 then (if bt359.2 = 2 then (if bt363.2 = 10 then ((runs_May.f k t332).bind fun t376 => (if t376 = true then ((runs_May.f k (([(⟨1, 0⟩ : S53)] : List (S53)))).bind fun t380 => (some (!t380))) else (none))) else (none)) else (none)) else (none)) else (none)) else (none)) else (none))) else (none))) else (none)) else (none))) else (none)))))))))))) = some r := by first | (rw [hy329]; with_reducible exact H) | (have H2_ := (Option.bind_some _ _).symm.trans H; rw [hy329]; with_reducible exact H2_) | (have H2_ := (Option.bind_some _ _).symm.trans H; with_reducible exact H2_) | with_reducible exact H | (rw [hy329]; exact H) | exact H
  have Ny329 := Aside0.mk hy329
  clear hy329
  replace H := Option.bind_eq_some_iff.mp H
  obtain ⟨t332, A10, H⟩ := H
  replace H : ((runs_Spread.f k t332 3).bind fun bt335 => ((runs_Spread.f k t332 2).bind fun bt339 => ((runs_Encode.f k (([7, 7, 0] : List Int))).bind fun t346 => ((runs_Decode.f k t346 3).bind fun bt347 => ((runs_Decode.f k t346 2).bind fun bt351 => ((runs_Decode.f k (⟨#[7, 1, 7, 1]⟩ : ByteArray) 2).bind fun bt355 => ((runs_Decode.f k (⟨#[7]⟩ : ByteArray) 1).bind fun bt359 => ((runs_Decode.f k (⟨#[]⟩ : ByteArray) 4097).bind fun bt363 => ((bonsairef06_SameRuns.f k t332 (([(⟨7, 2⟩ : S53), (⟨0, 1⟩ : S53)] : List (S53)))).bind fun t370 => (if t370 = true then ((bonsairef06_Same.f k bt335.1 (([7, 7, 0] : List Int))).bind fun t374 => (if t374 = true then (if bt335.2 = true then (if bt339.2 = true then (none) else (if t346.toList = ([7, 2, 0, 1] : List UInt8) then ((bonsairef06_Same.f k bt347.1 bt335.1).bind fun t375 => (if t375 = true then (if bt347.2 = 0 then (if bt351.2 = 5 then (if bt355.2 = 5 then (if bt359.2 = 2 then (if bt363.2 = 10 then ((runs_May.f k t332).bind fun t376 => (if t376 = true then ((runs_May.f k (([(⟨1, 0⟩ : S53)] : List (S53)))).bind fun t380 => (some (!t380))) else (none))) else (none)) else (none)) else (none)) else (none)) else (none)) else (none))) else (none))) else (none)) else (none))) else (none))))))))))) = some r := H
  have A1 := Aside0.mk A10
  clear A10
  replace H := Option.bind_eq_some_iff.mp H
  obtain ⟨⟨t335, t336⟩, A20, H⟩ := H
  replace H : ((runs_Spread.f k t332 2).bind fun bt339 => ((runs_Encode.f k (([7, 7, 0] : List Int))).bind fun t346 => ((runs_Decode.f k t346 3).bind fun bt347 => ((runs_Decode.f k t346 2).bind fun bt351 => ((runs_Decode.f k (⟨#[7, 1, 7, 1]⟩ : ByteArray) 2).bind fun bt355 => ((runs_Decode.f k (⟨#[7]⟩ : ByteArray) 1).bind fun bt359 => ((runs_Decode.f k (⟨#[]⟩ : ByteArray) 4097).bind fun bt363 => ((bonsairef06_SameRuns.f k t332 (([(⟨7, 2⟩ : S53), (⟨0, 1⟩ : S53)] : List (S53)))).bind fun t370 => (if t370 = true then ((bonsairef06_Same.f k t335 (([7, 7, 0] : List Int))).bind fun t374 => (if t374 = true then (if t336 = true then (if bt339.2 = true then (none) else (if t346.toList = ([7, 2, 0, 1] : List UInt8) then ((bonsairef06_Same.f k bt347.1 t335).bind fun t375 => (if t375 = true then (if bt347.2 = 0 then (if bt351.2 = 5 then (if bt355.2 = 5 then (if bt359.2 = 2 then (if bt363.2 = 10 then ((runs_May.f k t332).bind fun t376 => (if t376 = true then ((runs_May.f k (([(⟨1, 0⟩ : S53)] : List (S53)))).bind fun t380 => (some (!t380))) else (none))) else (none)) else (none)) else (none)) else (none)) else (none)) else (none))) else (none))) else (none)) else (none))) else (none)))))))))) = some r := H
  have A2 := Aside0.mk A20
  clear A20
  replace H := Option.bind_eq_some_iff.mp H
  obtain ⟨⟨t339, t340⟩, A30, H⟩ := H
  replace H : ((runs_Encode.f k (([7, 7, 0] : List Int))).bind fun t346 => ((runs_Decode.f k t346 3).bind fun bt347 => ((runs_Decode.f k t346 2).bind fun bt351 => ((runs_Decode.f k (⟨#[7, 1, 7, 1]⟩ : ByteArray) 2).bind fun bt355 => ((runs_Decode.f k (⟨#[7]⟩ : ByteArray) 1).bind fun bt359 => ((runs_Decode.f k (⟨#[]⟩ : ByteArray) 4097).bind fun bt363 => ((bonsairef06_SameRuns.f k t332 (([(⟨7, 2⟩ : S53), (⟨0, 1⟩ : S53)] : List (S53)))).bind fun t370 => (if t370 = true then ((bonsairef06_Same.f k t335 (([7, 7, 0] : List Int))).bind fun t374 => (if t374 = true then (if t336 = true then (if t340 = true then (none) else (if t346.toList = ([7, 2, 0, 1] : List UInt8) then ((bonsairef06_Same.f k bt347.1 t335).bind fun t375 => (if t375 = true then (if bt347.2 = 0 then (if bt351.2 = 5 then (if bt355.2 = 5 then (if bt359.2 = 2 then (if bt363.2 = 10 then ((runs_May.f k t332).bind fun t376 => (if t376 = true then ((runs_May.f k (([(⟨1, 0⟩ : S53)] : List (S53)))).bind fun t380 => (some (!t380))) else (none))) else (none)) else (none)) else (none)) else (none)) else (none)) else (none))) else (none))) else (none)) else (none))) else (none))))))))) = some r := H
  have A3 := Aside0.mk A30
  clear A30
  obtain ⟨y343, hy343⟩ : ∃ y_ : List Int, y_ = (([7, 7, 0] : List Int)) := ⟨_, rfl⟩
  replace H : ((runs_Encode.f k y343).bind fun t346 => ((runs_Decode.f k t346 3).bind fun bt347 => ((runs_Decode.f k t346 2).bind fun bt351 => ((runs_Decode.f k (⟨#[7, 1, 7, 1]⟩ : ByteArray) 2).bind fun bt355 => ((runs_Decode.f k (⟨#[7]⟩ : ByteArray) 1).bind fun bt359 => ((runs_Decode.f k (⟨#[]⟩ : ByteArray) 4097).bind fun bt363 => ((bonsairef06_SameRuns.f k t332 (([(⟨7, 2⟩ : S53), (⟨0, 1⟩ : S53)] : List (S53)))).bind fun t370 => (if t370 = true then ((bonsairef06_Same.f k t335 (([7, 7, 0] : List Int))).bind fun t374 => (if t374 = true then (if t336 = true then (if t340 = true then (none) else (if t346.toList = ([7, 2, 0, 1] : List UInt8) then ((bonsairef06_Same.f k bt347.1 t335).bind fun t375 => (if t375 = true then (if bt347.2 = 0 then (if bt351.2 = 5 then (if bt355.2 = 5 then (if bt359.2 = 2 then (if bt363.2 = 10 then ((runs_May.f k t332).bind fun t376 => (if t376 = true then ((runs_May.f k (([(⟨1, 0⟩ : S53)] : List (S53)))).bind fun t380 => (some (!t380))) else (none))) else (none)) else (none)) else (none)) else (none)) else (none)) else (none))) else (none))) else (none)) else (none))) else (none))))))))) = some r := by first | (rw [hy343]; with_reducible exact H) | (have H2_ := (Option.bind_some _ _).symm.trans H; rw [hy343]; with_reducible exact H2_) | (have H2_ := (Option.bind_some _ _).symm.trans H; with_reducible exact H2_) | with_reducible exact H | (rw [hy343]; exact H) | exact H
  have Ny343 := Aside0.mk hy343
  clear hy343
  replace H := Option.bind_eq_some_iff.mp H
  obtain ⟨t346, A40, H⟩ := H
  replace H : ((runs_Decode.f k t346 3).bind fun bt347 => ((runs_Decode.f k t346 2).bind fun bt351 => ((runs_Decode.f k (⟨#[7, 1, 7, 1]⟩ : ByteArray) 2).bind fun bt355 => ((runs_Decode.f k (⟨#[7]⟩ : ByteArray) 1).bind fun bt359 => ((runs_Decode.f k (⟨#[]⟩ : ByteArray) 4097).bind fun bt363 => ((bonsairef06_SameRuns.f k t332 (([(⟨7, 2⟩ : S53), (⟨0, 1⟩ : S53)] : List (S53)))).bind fun t370 => (if t370 = true then ((bonsairef06_Same.f k t335 (([7, 7, 0] : List Int))).bind fun t374 => (if t374 = true then (if t336 = true then (if t340 = true then (none) else (if t346.toList = ([7, 2, 0, 1] : List UInt8) then ((bonsairef06_Same.f k bt347.1 t335).bind fun t375 => (if t375 = true then (if bt347.2 = 0 then (if bt351.2 = 5 then (if bt355.2 = 5 then (if bt359.2 = 2 then (if bt363.2 = 10 then ((runs_May.f k t332).bind fun t376 => (if t376 = true then ((runs_May.f k (([(⟨1, 0⟩ : S53)] : List (S53)))).bind fun t380 => (some (!t380))) else (none))) else (none)) else (none)) else (none)) else (none)) else (none)) else (none))) else (none))) else (none)) else (none))) else (none)))))))) = some r := H
  have A4 := Aside0.mk A40
  clear A40
  replace H := Option.bind_eq_some_iff.mp H
  obtain ⟨⟨t347, t348⟩, A50, H⟩ := H
  replace H : ((runs_Decode.f k t346 2).bind fun bt351 => ((runs_Decode.f k (⟨#[7, 1, 7, 1]⟩ : ByteArray) 2).bind fun bt355 => ((runs_Decode.f k (⟨#[7]⟩ : ByteArray) 1).bind fun bt359 => ((runs_Decode.f k (⟨#[]⟩ : ByteArray) 4097).bind fun bt363 => ((bonsairef06_SameRuns.f k t332 (([(⟨7, 2⟩ : S53), (⟨0, 1⟩ : S53)] : List (S53)))).bind fun t370 => (if t370 = true then ((bonsairef06_Same.f k t335 (([7, 7, 0] : List Int))).bind fun t374 => (if t374 = true then (if t336 = true then (if t340 = true then (none) else (if t346.toList = ([7, 2, 0, 1] : List UInt8) then ((bonsairef06_Same.f k t347 t335).bind fun t375 => (if t375 = true then (if t348 = 0 then (if bt351.2 = 5 then (if bt355.2 = 5 then (if bt359.2 = 2 then (if bt363.2 = 10 then ((runs_May.f k t332).bind fun t376 => (if t376 = true then ((runs_May.f k (([(⟨1, 0⟩ : S53)] : List (S53)))).bind fun t380 => (some (!t380))) else (none))) else (none)) else (none)) else (none)) else (none)) else (none)) else (none))) else (none))) else (none)) else (none))) else (none))))))) = some r := H
  have A5 := Aside0.mk A50
  clear A50
  replace H := Option.bind_eq_some_iff.mp H
  obtain ⟨⟨t351, t352⟩, A60, H⟩ := H
  replace H : ((runs_Decode.f k (⟨#[7, 1, 7, 1]⟩ : ByteArray) 2).bind fun bt355 => ((runs_Decode.f k (⟨#[7]⟩ : ByteArray) 1).bind fun bt359 => ((runs_Decode.f k (⟨#[]⟩ : ByteArray) 4097).bind fun bt363 => ((bonsairef06_SameRuns.f k t332 (([(⟨7, 2⟩ : S53), (⟨0, 1⟩ : S53)] : List (S53)))).bind fun t370 => (if t370 = true then ((bonsairef06_Same.f k t335 (([7, 7, 0] : List Int))).bind fun t374 => (if t374 = true then (if t336 = true then (if t340 = true then (none) else (if t346.toList = ([7, 2, 0, 1] : List UInt8) then ((bonsairef06_Same.f k t347 t335).bind fun t375 => (if t375 = true then (if t348 = 0 then (if t352 = 5 then (if bt355.2 = 5 then (if bt359.2 = 2 then (if bt363.2 = 10 then ((runs_May.f k t332).bind fun t376 => (if t376 = true then ((runs_May.f k (([(⟨1, 0⟩ : S53)] : List (S53)))).bind fun t380 => (some (!t380))) else (none))) else (none)) else (none)) else (none)) else (none)) else (none)) else (none))) else (none))) else (none)) else (none))) else (none)))))) = some r := H
  have A6 := Aside0.mk A60
  clear A60
  replace H := Option.bind_eq_some_iff.mp H
  obtain ⟨⟨t355, t356⟩, A70, H⟩ := H
  replace H : ((runs_Decode.f k (⟨#[7]⟩ : ByteArray) 1).bind fun bt359 => ((runs_Decode.f k (⟨#[]⟩ : ByteArray) 4097).bind fun bt363 => ((bonsairef06_SameRuns.f k t332 (([(⟨7, 2⟩ : S53), (⟨0, 1⟩ : S53)] : List (S53)))).bind fun t370 => (if t370 = true then ((bonsairef06_Same.f k t335 (([7, 7, 0] : List Int))).bind fun t374 => (if t374 = true then (if t336 = true then (if t340 = true then (none) else (if t346.toList = ([7, 2, 0, 1] : List UInt8) then ((bonsairef06_Same.f k t347 t335).bind fun t375 => (if t375 = true then (if t348 = 0 then (if t352 = 5 then (if t356 = 5 then (if bt359.2 = 2 then (if bt363.2 = 10 then ((runs_May.f k t332).bind fun t376 => (if t376 = true then ((runs_May.f k (([(⟨1, 0⟩ : S53)] : List (S53)))).bind fun t380 => (some (!t380))) else (none))) else (none)) else (none)) else (none)) else (none)) else (none)) else (none))) else (none))) else (none)) else (none))) else (none))))) = some r := H
  have A7 := Aside0.mk A70
  clear A70
  replace H := Option.bind_eq_some_iff.mp H
  obtain ⟨⟨t359, t360⟩, A80, H⟩ := H
  replace H : ((runs_Decode.f k (⟨#[]⟩ : ByteArray) 4097).bind fun bt363 => ((bonsairef06_SameRuns.f k t332 (([(⟨7, 2⟩ : S53), (⟨0, 1⟩ : S53)] : List (S53)))).bind fun t370 => (if t370 = true then ((bonsairef06_Same.f k t335 (([7, 7, 0] : List Int))).bind fun t374 => (if t374 = true then (if t336 = true then (if t340 = true then (none) else (if t346.toList = ([7, 2, 0, 1] : List UInt8) then ((bonsairef06_Same.f k t347 t335).bind fun t375 => (if t375 = true then (if t348 = 0 then (if t352 = 5 then (if t356 = 5 then (if t360 = 2 then (if bt363.2 = 10 then ((runs_May.f k t332).bind fun t376 => (if t376 = true then ((runs_May.f k (([(⟨1, 0⟩ : S53)] : List (S53)))).bind fun t380 => (some (!t380))) else (none))) else (none)) else (none)) else (none)) else (none)) else (none)) else (none))) else (none))) else (none)) else (none))) else (none)))) = some r := H
  have A8 := Aside0.mk A80
  clear A80
  replace H := Option.bind_eq_some_iff.mp H
  obtain ⟨⟨t363, t364⟩, A90, H⟩ := H
  replace H : ((bonsairef06_SameRuns.f k t332 (([(⟨7, 2⟩ : S53), (⟨0, 1⟩ : S53)] : List (S53)))).bind fun t370 => (if t370 = true then ((bonsairef06_Same.f k t335 (([7, 7, 0] : List Int))).bind fun t374 => (if t374 = true then (if t336 = true then (if t340 = true then (none) else (if t346.toList = ([7, 2, 0, 1] : List UInt8) then ((bonsairef06_Same.f k t347 t335).bind fun t375 => (if t375 = true then (if t348 = 0 then (if t352 = 5 then (if t356 = 5 then (if t360 = 2 then (if t364 = 10 then ((runs_May.f k t332).bind fun t376 => (if t376 = true then ((runs_May.f k (([(⟨1, 0⟩ : S53)] : List (S53)))).bind fun t380 => (some (!t380))) else (none))) else (none)) else (none)) else (none)) else (none)) else (none)) else (none))) else (none))) else (none)) else (none))) else (none))) = some r := H
  have A9 := Aside0.mk A90
  clear A90
  obtain ⟨y367, hy367⟩ : ∃ y_ : List (S53), y_ = (([(⟨7, 2⟩ : S53), (⟨0, 1⟩ : S53)] : List (S53))) := ⟨_, rfl⟩
  replace H : ((bonsairef06_SameRuns.f k t332 y367).bind fun t370 => (if t370 = true then ((bonsairef06_Same.f k t335 (([7, 7, 0] : List Int))).bind fun t374 => (if t374 = true then (if t336 = true then (if t340 = true then (none) else (if t346.toList = ([7, 2, 0, 1] : List UInt8) then ((bonsairef06_Same.f k t347 t335).bind fun t375 => (if t375 = true then (if t348 = 0 then (if t352 = 5 then (if t356 = 5 then (if t360 = 2 then (if t364 = 10 then ((runs_May.f k t332).bind fun t376 => (if t376 = true then ((runs_May.f k (([(⟨1, 0⟩ : S53)] : List (S53)))).bind fun t380 => (some (!t380))) else (none))) else (none)) else (none)) else (none)) else (none)) else (none)) else (none))) else (none))) else (none)) else (none))) else (none))) = some r := by first | (rw [hy367]; with_reducible exact H) | (have H2_ := (Option.bind_some _ _).symm.trans H; rw [hy367]; with_reducible exact H2_) | (have H2_ := (Option.bind_some _ _).symm.trans H; with_reducible exact H2_) | with_reducible exact H | (rw [hy367]; exact H) | exact H
  have Ny367 := Aside0.mk hy367
  clear hy367
  replace H := Option.bind_eq_some_iff.mp H
  obtain ⟨t370, A100, H⟩ := H
  replace H : (if t370 = true then ((bonsairef06_Same.f k t335 (([7, 7, 0] : List Int))).bind fun t374 => (if t374 = true then (if t336 = true then (if t340 = true then (none) else (if t346.toList = ([7, 2, 0, 1] : List UInt8) then ((bonsairef06_Same.f k t347 t335).bind fun t375 => (if t375 = true then (if t348 = 0 then (if t352 = 5 then (if t356 = 5 then (if t360 = 2 then (if t364 = 10 then ((runs_May.f k t332).bind fun t376 => (if t376 = true then ((runs_May.f k (([(⟨1, 0⟩ : S53)] : List (S53)))).bind fun t380 => (some (!t380))) else (none))) else (none)) else (none)) else (none)) else (none)) else (none)) else (none))) else (none))) else (none)) else (none))) else (none)) = some r := H
  have A10 := Aside0.mk A100
  clear A100
  by_cases c11 : t370 = true
  · subst c11
    have H1 : ((bonsairef06_Same.f k t335 (([7, 7, 0] : List Int))).bind fun t374 => (if t374 = true then (if t336 = true then (if t340 = true then (none) else (if t346.toList = ([7, 2, 0, 1] : List UInt8) then ((bonsairef06_Same.f k t347 t335).bind fun t375 => (if t375 = true then (if t348 = 0 then (if t352 = 5 then (if t356 = 5 then (if t360 = 2 then (if t364 = 10 then ((runs_May.f k t332).bind fun t376 => (if t376 = true then ((runs_May.f k (([(⟨1, 0⟩ : S53)] : List (S53)))).bind fun t380 => (some (!t380))) else (none))) else (none)) else (none)) else (none)) else (none)) else (none)) else (none))) else (none))) else (none)) else (none))) = some r := by rw [if_pos rfl] at H; exact H
    clear H
    have H := H1
    clear H1
    obtain ⟨y371, hy371⟩ : ∃ y_ : List Int, y_ = (([7, 7, 0] : List Int)) := ⟨_, rfl⟩
    replace H : ((bonsairef06_Same.f k t335 y371).bind fun t374 => (if t374 = true then (if t336 = true then (if t340 = true then (none) else (if t346.toList = ([7, 2, 0, 1] : List UInt8) then ((bonsairef06_Same.f k t347 t335).bind fun t375 => (if t375 = true then (if t348 = 0 then (if t352 = 5 then (if t356 = 5 then (if t360 = 2 then (if t364 = 10 then ((runs_May.f k t332).bind fun t376 => (if t376 = true then ((runs_May.f k (([(⟨1, 0⟩ : S53)] : List (S53)))).bind fun t380 => (some (!t380))) else (none))) else (none)) else (none)) else (none)) else (none)) else (none)) else (none))) else (none))) else (none)) else (none))) = some r := by first | (rw [hy371]; with_reducible exact H) | (have H2_ := (Option.bind_some _ _).symm.trans H; rw [hy371]; with_reducible exact H2_) | (have H2_ := (Option.bind_some _ _).symm.trans H; with_reducible exact H2_) | with_reducible exact H | (rw [hy371]; exact H) | exact H
    have Ny371 := Aside0.mk hy371
    clear hy371
    replace H := Option.bind_eq_some_iff.mp H
    obtain ⟨t374, A120, H⟩ := H
    replace H : (if t374 = true then (if t336 = true then (if t340 = true then (none) else (if t346.toList = ([7, 2, 0, 1] : List UInt8) then ((bonsairef06_Same.f k t347 t335).bind fun t375 => (if t375 = true then (if t348 = 0 then (if t352 = 5 then (if t356 = 5 then (if t360 = 2 then (if t364 = 10 then ((runs_May.f k t332).bind fun t376 => (if t376 = true then ((runs_May.f k (([(⟨1, 0⟩ : S53)] : List (S53)))).bind fun t380 => (some (!t380))) else (none))) else (none)) else (none)) else (none)) else (none)) else (none)) else (none))) else (none))) else (none)) else (none)) = some r := H
    have A12 := Aside0.mk A120
    clear A120
    by_cases c13 : t374 = true
    · subst c13
      have H1 : (if t336 = true then (if t340 = true then (none) else (if t346.toList = ([7, 2, 0, 1] : List UInt8) then ((bonsairef06_Same.f k t347 t335).bind fun t375 => (if t375 = true then (if t348 = 0 then (if t352 = 5 then (if t356 = 5 then (if t360 = 2 then (if t364 = 10 then ((runs_May.f k t332).bind fun t376 => (if t376 = true then ((runs_May.f k (([(⟨1, 0⟩ : S53)] : List (S53)))).bind fun t380 => (some (!t380))) else (none))) else (none)) else (none)) else (none)) else (none)) else (none)) else (none))) else (none))) else (none)) = some r := by rw [if_pos rfl] at H; exact H
      clear H
      have H := H1
      clear H1
      by_cases c14 : t336 = true
      · subst c14
        have H1 : (if t340 = true then (none) else (if t346.toList = ([7, 2, 0, 1] : List UInt8) then ((bonsairef06_Same.f k t347 t335).bind fun t375 => (if t375 = true then (if t348 = 0 then (if t352 = 5 then (if t356 = 5 then (if t360 = 2 then (if t364 = 10 then ((runs_May.f k t332).bind fun t376 => (if t376 = true then ((runs_May.f k (([(⟨1, 0⟩ : S53)] : List (S53)))).bind fun t380 => (some (!t380))) else (none))) else (none)) else (none)) else (none)) else (none)) else (none)) else (none))) else (none))) = some r := by rw [if_pos rfl] at H; exact H
        clear H
        have H := H1
        clear H1
        by_cases c15 : t340 = true
        · subst c15
          have H1 : (none) = some r := by rw [if_pos rfl] at H; exact H
          clear H
          have H := H1
          clear H1
          exact absurd H (by simp)
        · replace c15 := Bool.eq_false_iff.mpr c15
          subst c15
          have H1 : (if t346.toList = ([7, 2, 0, 1] : List UInt8) then ((bonsairef06_Same.f k t347 t335).bind fun t375 => (if t375 = true then (if t348 = 0 then (if t352 = 5 then (if t356 = 5 then (if t360 = 2 then (if t364 = 10 then ((runs_May.f k t332).bind fun t376 => (if t376 = true then ((runs_May.f k (([(⟨1, 0⟩ : S53)] : List (S53)))).bind fun t380 => (some (!t380))) else (none))) else (none)) else (none)) else (none)) else (none)) else (none)) else (none))) else (none)) = some r := by rw [if_neg (show ¬ (false = true) by decide)] at H; exact H
          clear H
          have H := H1
          clear H1
          by_cases c16 : t346.toList = ([7, 2, 0, 1] : List UInt8)
          · rw [if_pos c16] at H
            have c16b0 : (t346.toList == ([7, 2, 0, 1] : List UInt8)) = true := beq_iff_eq.mpr c16
            have c16b1 : (t346.toList != ([7, 2, 0, 1] : List UInt8)) = false := bne_eq_false_iff_eq.mpr c16
            clear c16
            replace H := Option.bind_eq_some_iff.mp H
            obtain ⟨t375, A170, H⟩ := H
            replace H : (if t375 = true then (if t348 = 0 then (if t352 = 5 then (if t356 = 5 then (if t360 = 2 then (if t364 = 10 then ((runs_May.f k t332).bind fun t376 => (if t376 = true then ((runs_May.f k (([(⟨1, 0⟩ : S53)] : List (S53)))).bind fun t380 => (some (!t380))) else (none))) else (none)) else (none)) else (none)) else (none)) else (none)) else (none)) = some r := H
            have A17 := Aside0.mk A170
            clear A170
            by_cases c18 : t375 = true
            · subst c18
              have H1 : (if t348 = 0 then (if t352 = 5 then (if t356 = 5 then (if t360 = 2 then (if t364 = 10 then ((runs_May.f k t332).bind fun t376 => (if t376 = true then ((runs_May.f k (([(⟨1, 0⟩ : S53)] : List (S53)))).bind fun t380 => (some (!t380))) else (none))) else (none)) else (none)) else (none)) else (none)) else (none)) = some r := by rw [if_pos rfl] at H; exact H
              clear H
              have H := H1
              clear H1
              by_cases c19 : t348 = 0
              · rw [if_pos c19] at H
                have c19b0 : (t348 == 0) = true := beq_iff_eq.mpr c19
                have c19b1 : (t348 != 0) = false := bne_eq_false_iff_eq.mpr c19
                clear c19
                by_cases c20 : t352 = 5
                · rw [if_pos c20] at H
                  have c20b0 : (t352 == 5) = true := beq_iff_eq.mpr c20
                  have c20b1 : (t352 != 5) = false := bne_eq_false_iff_eq.mpr c20
                  clear c20
                  by_cases c21 : t356 = 5
                  · rw [if_pos c21] at H
                    have c21b0 : (t356 == 5) = true := beq_iff_eq.mpr c21
                    have c21b1 : (t356 != 5) = false := bne_eq_false_iff_eq.mpr c21
                    clear c21
                    by_cases c22 : t360 = 2
                    · rw [if_pos c22] at H
                      have c22b0 : (t360 == 2) = true := beq_iff_eq.mpr c22
                      have c22b1 : (t360 != 2) = false := bne_eq_false_iff_eq.mpr c22
                      clear c22
                      by_cases c23 : t364 = 10
                      · rw [if_pos c23] at H
                        have c23b0 : (t364 == 10) = true := beq_iff_eq.mpr c23
                        have c23b1 : (t364 != 10) = false := bne_eq_false_iff_eq.mpr c23
                        clear c23
                        replace H := Option.bind_eq_some_iff.mp H
                        obtain ⟨t376, A240, H⟩ := H
                        replace H : (if t376 = true then ((runs_May.f k (([(⟨1, 0⟩ : S53)] : List (S53)))).bind fun t380 => (some (!t380))) else (none)) = some r := H
                        have A24 := Aside0.mk A240
                        clear A240
                        by_cases c25 : t376 = true
                        · subst c25
                          have H1 : ((runs_May.f k (([(⟨1, 0⟩ : S53)] : List (S53)))).bind fun t380 => (some (!t380))) = some r := by rw [if_pos rfl] at H; exact H
                          clear H
                          have H := H1
                          clear H1
                          obtain ⟨y377, hy377⟩ : ∃ y_ : List (S53), y_ = (([(⟨1, 0⟩ : S53)] : List (S53))) := ⟨_, rfl⟩
                          replace H : ((runs_May.f k y377).bind fun t380 => (some (!t380))) = some r := by first | (rw [hy377]; with_reducible exact H) | (have H2_ := (Option.bind_some _ _).symm.trans H; rw [hy377]; with_reducible exact H2_) | (have H2_ := (Option.bind_some _ _).symm.trans H; with_reducible exact H2_) | with_reducible exact H | (rw [hy377]; exact H) | exact H
                          have Ny377 := Aside0.mk hy377
                          clear hy377
                          replace H := Option.bind_eq_some_iff.mp H
                          obtain ⟨t380, A260, H⟩ := H
                          replace H : (some (!t380)) = some r := H
                          have A26 := Aside0.mk A260
                          clear A260
                          obtain rfl := Option.some.inj H
                          go_enter Try.func38, Try.ntmps38
                          go_wp2_with (first | ((with_reducible refine gate_dst (N := 17) rfl ?_); (try (refine gate_guard (by rfl) ?_; dsimp only)); refine Kd.R_lit (Kd.int .u64) _ 51 ?hg (N := 17) ?hd (xs := ([7, 7, 0] : List Int)) (inner := [.int .u64 7, .int .u64 7, .int .u64 0]) (ok := fun _ => True) (okp := fun _ => True) ?hr ?hp (fun _ hk => hk) trivial (Below.refl _ _) (Nat.le_refl _) (by simp) ?_; (case hd => rfl); (case hg => rfl); (case hr => first | (go_simp; done) | (go_simp; rfl)); (case hp => exact (Reps.one (show Kd.M (Kd.int .u64) _ _ _ 7 [.int .u64 7] from rfl) (Reps.one (show Kd.M (Kd.int .u64) _ _ _ 7 [.int .u64 7] from rfl) (Reps.one (show Kd.M (Kd.int .u64) _ _ _ 0 [.int .u64 0] from rfl) (Reps.none _ _))))); intro v330 w27 ho28 hb hg_ hnew_; clear hg_ hnew_; (first | rw [← Ny329.out] at ho28 | (simp only [Int.reduceToNat] at ho28; rw [← Ny329.out] at ho28)); have n0_ := Aside0.mk (Kd.R_lower ho28 (below_size (by repeat (first | (with_reducible first | exact HB.out | apply below_alloc | apply pw_below_drewN | apply below_drew1) | exact HB.out)))); have n1_ := Aside0.mk (below_step (by repeat (first | (with_reducible first | exact HB.out | apply below_alloc | apply pw_below_drewN | apply below_drew1) | exact HB.out)) hb); clear HB; have HO331 := n0_; have HB := n1_; clear n0_ n1_; clear hb ho28; obtain ⟨Ao29, co29, eo29⟩ := Kd.R_slice HO331.out; subst eo29) | ((with_reducible refine gate_callee (f := 42) rfl ?_); refine goesL_ (some 18) rfl rfl Try.func42 (by kernel_rfl) rfl #[.slice Ao29 y329.length co29] rfl (by (try simp only [List.map_toArray, List.map_cons, List.map_nil]); first | done | rfl | (simp only [List.length_drop, List.length_take]; rfl)) ?_; (with_reducible refine (runs_Runs.calls k _ _ y329 t332 _ ?side1 ?side2 A1.out).mono ?_); (case side1 => repeat (first | exact (Kd.R_reads' HO331.out).2.2 | (with_reducible refine Kd.C_alloc ?_ _) | (with_reducible refine Kd.C_drewN ?_ _) | (with_reducible refine Kd.C_drew ?_))); (case side2 => exact (Kd.R_reads' HO331.out).2.1); rintro e w30 ⟨v333, rfl, ho0, hb⟩; refine ⟨_, rfl, ?_⟩; have n0_ := Aside0.mk (Kd.R_below (by (with_reducible repeat (first | apply Kd.R_alloc | apply Kd.R_drewN | apply Kd.R_drew)); exact HO331.out) hb); have n1_ := Aside0.mk (Kd.R_lower ho0 (below_size (by repeat (first | (with_reducible first | exact HB.out | apply below_alloc | apply pw_below_drewN | apply below_drew1) | exact HB.out)))); have n2_ := Aside0.mk (below_step (by repeat (first | (with_reducible first | exact HB.out | apply below_alloc | apply pw_below_drewN | apply below_drew1) | exact HB.out)) hb); clear HO331; clear HB; have HO331 := n0_; have HO334 := n1_; have HB := n2_; clear n0_ n1_ n2_; (try clear hb); (try clear hb2); (try clear hk); (try clear hi); (try clear ho0); obtain ⟨Ao31, co31, eo31⟩ := Kd.R_slice HO334.out; subst eo31) | ((with_reducible refine gate_callee (f := 39) rfl ?_); refine goesL_ (some 21) rfl rfl Try.func39 (by kernel_rfl) rfl #[.slice Ao31 t332.length co31, .int .i64 3] rfl (by (try simp only [List.map_toArray, List.map_cons, List.map_nil]); first | done | rfl | (simp only [List.length_drop, List.length_take]; rfl)) ?_; (with_reducible refine (runs_Spread.calls k _ _ t332 3 t335 true _ ?side1 ?side2 A2.out).mono ?_); (case side1 => repeat (first | exact (Kd.R_reads' HO334.out).2.2 | (with_reducible refine Kd.C_alloc ?_ _) | (with_reducible refine Kd.C_drewN ?_ _) | (with_reducible refine Kd.C_drew ?_))); (case side2 => exact (Kd.R_reads' HO334.out).2.1); rintro e w32 ⟨v337, rfl, ho0, hb⟩; refine ⟨_, rfl, ?_⟩; have n0_ := Aside0.mk (Kd.R_elder' (by (with_reducible repeat (first | apply Kd.R_alloc | apply Kd.R_drewN | apply Kd.R_drew)); exact HO331.out) (Kd.R_base ho0) hb); have n1_ := Aside0.mk (Kd.R_below (by (with_reducible repeat (first | apply Kd.R_alloc | apply Kd.R_drewN | apply Kd.R_drew)); exact HO334.out) hb); have n2_ := Aside0.mk (Kd.R_lower (Kd.R_new' ho0 (Kd.R_lt (by (with_reducible repeat (first | apply Kd.R_alloc | apply Kd.R_drewN | apply Kd.R_drew)); exact HO331.out))) (below_size (by repeat (first | (with_reducible first | exact HB.out | apply below_alloc | apply pw_below_drewN | apply below_drew1) | exact HB.out)))); have n3_ := Aside0.mk (below_step (by repeat (first | (with_reducible first | exact HB.out | apply below_alloc | apply pw_below_drewN | apply below_drew1) | exact HB.out)) hb); clear HO331; clear HO334; clear HB; have HO331 := n0_; have HO334 := n1_; have HO338 := n2_; have HB := n3_; clear n0_ n1_ n2_ n3_; (try clear hb); (try clear hb2); (try clear hk); (try clear hi); (try clear ho0)) | ((with_reducible refine gate_callee (f := 39) rfl ?_); refine goesL_ (some 26) rfl rfl Try.func39 (by kernel_rfl) rfl #[.slice Ao31 t332.length co31, .int .i64 2] rfl (by (try simp only [List.map_toArray, List.map_cons, List.map_nil]); first | done | rfl | (simp only [List.length_drop, List.length_take]; rfl)) ?_; (with_reducible refine (runs_Spread.calls k _ _ t332 2 t339 false _ ?side1 ?side2 A3.out).mono ?_); (case side1 => repeat (first | exact (Kd.R_reads' HO334.out).2.2 | (with_reducible refine Kd.C_alloc ?_ _) | (with_reducible refine Kd.C_drewN ?_ _) | (with_reducible refine Kd.C_drew ?_))); (case side2 => exact (Kd.R_reads' HO334.out).2.1); rintro e w33 ⟨v341, rfl, ho0, hb⟩; refine ⟨_, rfl, ?_⟩; have n0_ := Aside0.mk (Kd.R_elder' (by (with_reducible repeat (first | apply Kd.R_alloc | apply Kd.R_drewN | apply Kd.R_drew)); exact HO331.out) (Kd.R_base ho0) hb); have n1_ := Aside0.mk (Kd.R_below (by (with_reducible repeat (first | apply Kd.R_alloc | apply Kd.R_drewN | apply Kd.R_drew)); exact HO334.out) hb); have n2_ := Aside0.mk (Kd.R_elder' (by (with_reducible repeat (first | apply Kd.R_alloc | apply Kd.R_drewN | apply Kd.R_drew)); exact HO338.out) (Kd.R_base ho0) hb); have n3_ := Aside0.mk (Kd.R_lower (Kd.R_new' (Kd.R_new' ho0 (Kd.R_lt (by (with_reducible repeat (first | apply Kd.R_alloc | apply Kd.R_drewN | apply Kd.R_drew)); exact HO331.out))) (Kd.R_lt (by (with_reducible repeat (first | apply Kd.R_alloc | apply Kd.R_drewN | apply Kd.R_drew)); exact HO338.out))) (below_size (by repeat (first | (with_reducible first | exact HB.out | apply below_alloc | apply pw_below_drewN | apply below_drew1) | exact HB.out)))); have n4_ := Aside0.mk (below_step (by repeat (first | (with_reducible first | exact HB.out | apply below_alloc | apply pw_below_drewN | apply below_drew1) | exact HB.out)) hb); clear HO331; clear HO334; clear HO338; clear HB; have HO331 := n0_; have HO334 := n1_; have HO338 := n2_; have HO342 := n3_; have HB := n4_; clear n0_ n1_ n2_ n3_ n4_; (try clear hb); (try clear hb2); (try clear hk); (try clear hi); (try clear ho0)) | ((with_reducible refine gate_dst (N := 29) rfl ?_); (try (refine gate_guard (by rfl) ?_; dsimp only)); refine Kd.R_lit (Kd.int .u64) _ 51 ?hg (N := 29) ?hd (xs := ([7, 7, 0] : List Int)) (inner := [.int .u64 7, .int .u64 7, .int .u64 0]) (ok := fun _ => True) (okp := fun _ => True) ?hr ?hp (fun _ hk => hk) trivial (Below.refl _ _) (Nat.le_refl _) (by simp) ?_; (case hd => rfl); (case hg => rfl); (case hr => first | (go_simp; done) | (go_simp; rfl)); (case hp => exact (Reps.one (show Kd.M (Kd.int .u64) _ _ _ 7 [.int .u64 7] from rfl) (Reps.one (show Kd.M (Kd.int .u64) _ _ _ 7 [.int .u64 7] from rfl) (Reps.one (show Kd.M (Kd.int .u64) _ _ _ 0 [.int .u64 0] from rfl) (Reps.none _ _))))); intro v344 w34 ho35 hb hg_ hnew_; clear hg_ hnew_; (first | rw [← Ny343.out] at ho35 | (simp only [Int.reduceToNat] at ho35; rw [← Ny343.out] at ho35)); have n0_ := Aside0.mk (Kd.R_elder' (by (with_reducible repeat (first | apply Kd.R_alloc | apply Kd.R_drewN | apply Kd.R_drew)); exact HO331.out) (Kd.R_base ho35) hb); have n1_ := Aside0.mk (Kd.R_below (by (with_reducible repeat (first | apply Kd.R_alloc | apply Kd.R_drewN | apply Kd.R_drew)); exact HO334.out) hb); have n2_ := Aside0.mk (Kd.R_elder' (by (with_reducible repeat (first | apply Kd.R_alloc | apply Kd.R_drewN | apply Kd.R_drew)); exact HO338.out) (Kd.R_base ho35) hb); have n3_ := Aside0.mk (Kd.R_elder' (by (with_reducible repeat (first | apply Kd.R_alloc | apply Kd.R_drewN | apply Kd.R_drew)); exact HO342.out) (Kd.R_base ho35) hb); have n4_ := Aside0.mk (Kd.R_lower (Kd.R_new' (Kd.R_new' (Kd.R_new' ho35 (Kd.R_lt (by (with_reducible repeat (first | apply Kd.R_alloc | apply Kd.R_drewN | apply Kd.R_drew)); exact HO331.out))) (Kd.R_lt (by (with_reducible repeat (first | apply Kd.R_alloc | apply Kd.R_drewN | apply Kd.R_drew)); exact HO338.out))) (Kd.R_lt (by (with_reducible repeat (first | apply Kd.R_alloc | apply Kd.R_drewN | apply Kd.R_drew)); exact HO342.out))) (below_size (by repeat (first | (with_reducible first | exact HB.out | apply below_alloc | apply pw_below_drewN | apply below_drew1) | exact HB.out)))); have n5_ := Aside0.mk (below_step (by repeat (first | (with_reducible first | exact HB.out | apply below_alloc | apply pw_below_drewN | apply below_drew1) | exact HB.out)) hb); clear HO331; clear HO334; clear HO338; clear HO342; clear HB; have HO331 := n0_; have HO334 := n1_; have HO338 := n2_; have HO342 := n3_; have HO345 := n4_; have HB := n5_; clear n0_ n1_ n2_ n3_ n4_ n5_; clear hb ho35; obtain ⟨Ao36, co36, eo36⟩ := Kd.R_slice HO345.out; subst eo36) | ((with_reducible refine gate_callee (f := 44) rfl ?_); refine goesL_ (some 30) rfl rfl Try.func44 (by kernel_rfl) rfl #[.slice Ao36 y343.length co36] rfl (by (try simp only [List.map_toArray, List.map_cons, List.map_nil]); first | done | rfl | (simp only [List.length_drop, List.length_take]; rfl)) ?_; (with_reducible refine (runs_Encode.calls k _ _ y343 t346 _ ?side1 ?side2 A4.out).mono ?_); (case side1 => repeat (first | exact (Kd.R_reads' HO345.out).2.2 | (with_reducible refine Kd.C_alloc ?_ _) | (with_reducible refine Kd.C_drewN ?_ _) | (with_reducible refine Kd.C_drew ?_))); (case side2 => exact (Kd.R_reads' HO345.out).2.1); rintro e w37 ⟨rfl, hb⟩; refine ⟨_, rfl, ?_⟩; have n0_ := Aside0.mk (Kd.R_below (by (with_reducible repeat (first | apply Kd.R_alloc | apply Kd.R_drewN | apply Kd.R_drew)); exact HO331.out) hb); have n1_ := Aside0.mk (Kd.R_below (by (with_reducible repeat (first | apply Kd.R_alloc | apply Kd.R_drewN | apply Kd.R_drew)); exact HO334.out) hb); have n2_ := Aside0.mk (Kd.R_below (by (with_reducible repeat (first | apply Kd.R_alloc | apply Kd.R_drewN | apply Kd.R_drew)); exact HO338.out) hb); have n3_ := Aside0.mk (Kd.R_below (by (with_reducible repeat (first | apply Kd.R_alloc | apply Kd.R_drewN | apply Kd.R_drew)); exact HO342.out) hb); have n4_ := Aside0.mk (Kd.R_below (by (with_reducible repeat (first | apply Kd.R_alloc | apply Kd.R_drewN | apply Kd.R_drew)); exact HO345.out) hb); have n5_ := Aside0.mk (below_step (by repeat (first | (with_reducible first | exact HB.out | apply below_alloc | apply pw_below_drewN | apply below_drew1) | exact HB.out)) hb); clear HO331; clear HO334; clear HO338; clear HO342; clear HO345; clear HB; have HO331 := n0_; have HO334 := n1_; have HO338 := n2_; have HO342 := n3_; have HO345 := n4_; have HB := n5_; clear n0_ n1_ n2_ n3_ n4_ n5_; (try clear hb); (try clear hb2); (try clear hk); (try clear hi)) | ((with_reducible refine gate_callee (f := 49) rfl ?_); refine goesL_ (some 33) rfl rfl Try.func49 (by kernel_rfl) rfl #[.string t346, .int .i64 3] rfl (by (try simp only [List.map_toArray, List.map_cons, List.map_nil]); first | done | rfl | (simp only [List.length_drop, List.length_take]; rfl)) ?_; (with_reducible refine (runs_Decode.calls k t346 3 t347 t348 _ A5.out).mono ?_); rintro e w38 ⟨v349, rfl, ho0, hb⟩; refine ⟨_, rfl, ?_⟩; have n0_ := Aside0.mk (Kd.R_elder' (by (with_reducible repeat (first | apply Kd.R_alloc | apply Kd.R_drewN | apply Kd.R_drew)); exact HO331.out) (Kd.R_base ho0) hb); have n1_ := Aside0.mk (Kd.R_below (by (with_reducible repeat (first | apply Kd.R_alloc | apply Kd.R_drewN | apply Kd.R_drew)); exact HO334.out) hb); have n2_ := Aside0.mk (Kd.R_elder' (by (with_reducible repeat (first | apply Kd.R_alloc | apply Kd.R_drewN | apply Kd.R_drew)); exact HO338.out) (Kd.R_base ho0) hb); have n3_ := Aside0.mk (Kd.R_elder' (by (with_reducible repeat (first | apply Kd.R_alloc | apply Kd.R_drewN | apply Kd.R_drew)); exact HO342.out) (Kd.R_base ho0) hb); have n4_ := Aside0.mk (Kd.R_elder' (by (with_reducible repeat (first | apply Kd.R_alloc | apply Kd.R_drewN | apply Kd.R_drew)); exact HO345.out) (Kd.R_base ho0) hb); have n5_ := Aside0.mk (Kd.R_lower (Kd.R_new' (Kd.R_new' (Kd.R_new' (Kd.R_new' ho0 (Kd.R_lt (by (with_reducible repeat (first | apply Kd.R_alloc | apply Kd.R_drewN | apply Kd.R_drew)); exact HO331.out))) (Kd.R_lt (by (with_reducible repeat (first | apply Kd.R_alloc | apply Kd.R_drewN | apply Kd.R_drew)); exact HO338.out))) (Kd.R_lt (by (with_reducible repeat (first | apply Kd.R_alloc | apply Kd.R_drewN | apply Kd.R_drew)); exact HO342.out))) (Kd.R_lt (by (with_reducible repeat (first | apply Kd.R_alloc | apply Kd.R_drewN | apply Kd.R_drew)); exact HO345.out))) (below_size (by repeat (first | (with_reducible first | exact HB.out | apply below_alloc | apply pw_below_drewN | apply below_drew1) | exact HB.out)))); have n6_ := Aside0.mk (below_step (by repeat (first | (with_reducible first | exact HB.out | apply below_alloc | apply pw_below_drewN | apply below_drew1) | exact HB.out)) hb); clear HO331; clear HO334; clear HO338; clear HO342; clear HO345; clear HB; have HO331 := n0_; have HO334 := n1_; have HO338 := n2_; have HO342 := n3_; have HO345 := n4_; have HO350 := n5_; have HB := n6_; clear n0_ n1_ n2_ n3_ n4_ n5_ n6_; (try clear hb); (try clear hb2); (try clear hk); (try clear hi); (try clear ho0)) | ((with_reducible refine gate_callee (f := 49) rfl ?_); refine goesL_ (some 38) rfl rfl Try.func49 (by kernel_rfl) rfl #[.string t346, .int .i64 2] rfl (by (try simp only [List.map_toArray, List.map_cons, List.map_nil]); first | done | rfl | (simp only [List.length_drop, List.length_take]; rfl)) ?_; (with_reducible refine (runs_Decode.calls k t346 2 t351 t352 _ A6.out).mono ?_); rintro e w39 ⟨v353, rfl, ho0, hb⟩; refine ⟨_, rfl, ?_⟩; have n0_ := Aside0.mk (Kd.R_elder' (by (with_reducible repeat (first | apply Kd.R_alloc | apply Kd.R_drewN | apply Kd.R_drew)); exact HO331.out) (Kd.R_base ho0) hb); have n1_ := Aside0.mk (Kd.R_below (by (with_reducible repeat (first | apply Kd.R_alloc | apply Kd.R_drewN | apply Kd.R_drew)); exact HO334.out) hb); have n2_ := Aside0.mk (Kd.R_elder' (by (with_reducible repeat (first | apply Kd.R_alloc | apply Kd.R_drewN | apply Kd.R_drew)); exact HO338.out) (Kd.R_base ho0) hb); have n3_ := Aside0.mk (Kd.R_elder' (by (with_reducible repeat (first | apply Kd.R_alloc | apply Kd.R_drewN | apply Kd.R_drew)); exact HO342.out) (Kd.R_base ho0) hb); have n4_ := Aside0.mk (Kd.R_elder' (by (with_reducible repeat (first | apply Kd.R_alloc | apply Kd.R_drewN | apply Kd.R_drew)); exact HO345.out) (Kd.R_base ho0) hb); have n5_ := Aside0.mk (Kd.R_elder' (by (with_reducible repeat (first | apply Kd.R_alloc | apply Kd.R_drewN | apply Kd.R_drew)); exact HO350.out) (Kd.R_base ho0) hb); have n6_ := Aside0.mk (Kd.R_lower (Kd.R_new' (Kd.R_new' (Kd.R_new' (Kd.R_new' (Kd.R_new' ho0 (Kd.R_lt (by (with_reducible repeat (first | apply Kd.R_alloc | apply Kd.R_drewN | apply Kd.R_drew)); exact HO331.out))) (Kd.R_lt (by (with_reducible repeat (first | apply Kd.R_alloc | apply Kd.R_drewN | apply Kd.R_drew)); exact HO338.out))) (Kd.R_lt (by (with_reducible repeat (first | apply Kd.R_alloc | apply Kd.R_drewN | apply Kd.R_drew)); exact HO342.out))) (Kd.R_lt (by (with_reducible repeat (first | apply Kd.R_alloc | apply Kd.R_drewN | apply Kd.R_drew)); exact HO345.out))) (Kd.R_lt (by (with_reducible repeat (first | apply Kd.R_alloc | apply Kd.R_drewN | apply Kd.R_drew)); exact HO350.out))) (below_size (by repeat (first | (with_reducible first | exact HB.out | apply below_alloc | apply pw_below_drewN | apply below_drew1) | exact HB.out)))); have n7_ := Aside0.mk (below_step (by repeat (first | (with_reducible first | exact HB.out | apply below_alloc | apply pw_below_drewN | apply below_drew1) | exact HB.out)) hb); clear HO331; clear HO334; clear HO338; clear HO342; clear HO345; clear HO350; clear HB; have HO331 := n0_; have HO334 := n1_; have HO338 := n2_; have HO342 := n3_; have HO345 := n4_; have HO350 := n5_; have HO354 := n6_; have HB := n7_; clear n0_ n1_ n2_ n3_ n4_ n5_ n6_ n7_; (try clear hb); (try clear hb2); (try clear hk); (try clear hi); (try clear ho0)) | ((with_reducible refine gate_callee (f := 49) rfl ?_); refine goesL_ (some 42) rfl rfl Try.func49 (by kernel_rfl) rfl #[.string (⟨#[7, 1, 7, 1]⟩ : ByteArray), .int .i64 2] rfl (by (try simp only [List.map_toArray, List.map_cons, List.map_nil]); first | done | rfl | (simp only [List.length_drop, List.length_take]; rfl)) ?_; (with_reducible refine (runs_Decode.calls k (⟨#[7, 1, 7, 1]⟩ : ByteArray) 2 t355 t356 _ A7.out).mono ?_); rintro e w40 ⟨v357, rfl, ho0, hb⟩; refine ⟨_, rfl, ?_⟩; have n0_ := Aside0.mk (Kd.R_elder' (by (with_reducible repeat (first | apply Kd.R_alloc | apply Kd.R_drewN | apply Kd.R_drew)); exact HO331.out) (Kd.R_base ho0) hb); have n1_ := Aside0.mk (Kd.R_below (by (with_reducible repeat (first | apply Kd.R_alloc | apply Kd.R_drewN | apply Kd.R_drew)); exact HO334.out) hb); have n2_ := Aside0.mk (Kd.R_elder' (by (with_reducible repeat (first | apply Kd.R_alloc | apply Kd.R_drewN | apply Kd.R_drew)); exact HO338.out) (Kd.R_base ho0) hb); have n3_ := Aside0.mk (Kd.R_elder' (by (with_reducible repeat (first | apply Kd.R_alloc | apply Kd.R_drewN | apply Kd.R_drew)); exact HO342.out) (Kd.R_base ho0) hb); have n4_ := Aside0.mk (Kd.R_elder' (by (with_reducible repeat (first | apply Kd.R_alloc | apply Kd.R_drewN | apply Kd.R_drew)); exact HO345.out) (Kd.R_base ho0) hb); have n5_ := Aside0.mk (Kd.R_elder' (by (with_reducible repeat (first | apply Kd.R_alloc | apply Kd.R_drewN | apply Kd.R_drew)); exact HO350.out) (Kd.R_base ho0) hb); have n6_ := Aside0.mk (Kd.R_elder' (by (with_reducible repeat (first | apply Kd.R_alloc | apply Kd.R_drewN | apply Kd.R_drew)); exact HO354.out) (Kd.R_base ho0) hb); have n7_ := Aside0.mk (Kd.R_lower (Kd.R_new' (Kd.R_new' (Kd.R_new' (Kd.R_new' (Kd.R_new' (Kd.R_new' ho0 (Kd.R_lt (by (with_reducible repeat (first | apply Kd.R_alloc | apply Kd.R_drewN | apply Kd.R_drew)); exact HO331.out))) (Kd.R_lt (by (with_reducible repeat (first | apply Kd.R_alloc | apply Kd.R_drewN | apply Kd.R_drew)); exact HO338.out))) (Kd.R_lt (by (with_reducible repeat (first | apply Kd.R_alloc | apply Kd.R_drewN | apply Kd.R_drew)); exact HO342.out))) (Kd.R_lt (by (with_reducible repeat (first | apply Kd.R_alloc | apply Kd.R_drewN | apply Kd.R_drew)); exact HO345.out))) (Kd.R_lt (by (with_reducible repeat (first | apply Kd.R_alloc | apply Kd.R_drewN | apply Kd.R_drew)); exact HO350.out))) (Kd.R_lt (by (with_reducible repeat (first | apply Kd.R_alloc | apply Kd.R_drewN | apply Kd.R_drew)); exact HO354.out))) (below_size (by repeat (first | (with_reducible first | exact HB.out | apply below_alloc | apply pw_below_drewN | apply below_drew1) | exact HB.out)))); have n8_ := Aside0.mk (below_step (by repeat (first | (with_reducible first | exact HB.out | apply below_alloc | apply pw_below_drewN | apply below_drew1) | exact HB.out)) hb); clear HO331; clear HO334; clear HO338; clear HO342; clear HO345; clear HO350; clear HO354; clear HB; have HO331 := n0_; have HO334 := n1_; have HO338 := n2_; have HO342 := n3_; have HO345 := n4_; have HO350 := n5_; have HO354 := n6_; have HO358 := n7_; have HB := n8_; clear n0_ n1_ n2_ n3_ n4_ n5_ n6_ n7_ n8_; (try clear hb); (try clear hb2); (try clear hk); (try clear hi); (try clear ho0)) | ((with_reducible refine gate_callee (f := 49) rfl ?_); refine goesL_ (some 46) rfl rfl Try.func49 (by kernel_rfl) rfl #[.string (⟨#[7]⟩ : ByteArray), .int .i64 1] rfl (by (try simp only [List.map_toArray, List.map_cons, List.map_nil]); first | done | rfl | (simp only [List.length_drop, List.length_take]; rfl)) ?_; (with_reducible refine (runs_Decode.calls k (⟨#[7]⟩ : ByteArray) 1 t359 t360 _ A8.out).mono ?_); rintro e w41 ⟨v361, rfl, ho0, hb⟩; refine ⟨_, rfl, ?_⟩; have n0_ := Aside0.mk (Kd.R_elder' (by (with_reducible repeat (first | apply Kd.R_alloc | apply Kd.R_drewN | apply Kd.R_drew)); exact HO331.out) (Kd.R_base ho0) hb); have n1_ := Aside0.mk (Kd.R_below (by (with_reducible repeat (first | apply Kd.R_alloc | apply Kd.R_drewN | apply Kd.R_drew)); exact HO334.out) hb); have n2_ := Aside0.mk (Kd.R_elder' (by (with_reducible repeat (first | apply Kd.R_alloc | apply Kd.R_drewN | apply Kd.R_drew)); exact HO338.out) (Kd.R_base ho0) hb); have n3_ := Aside0.mk (Kd.R_elder' (by (with_reducible repeat (first | apply Kd.R_alloc | apply Kd.R_drewN | apply Kd.R_drew)); exact HO342.out) (Kd.R_base ho0) hb); have n4_ := Aside0.mk (Kd.R_elder' (by (with_reducible repeat (first | apply Kd.R_alloc | apply Kd.R_drewN | apply Kd.R_drew)); exact HO345.out) (Kd.R_base ho0) hb); have n5_ := Aside0.mk (Kd.R_elder' (by (with_reducible repeat (first | apply Kd.R_alloc | apply Kd.R_drewN | apply Kd.R_drew)); exact HO350.out) (Kd.R_base ho0) hb); have n6_ := Aside0.mk (Kd.R_elder' (by (with_reducible repeat (first | apply Kd.R_alloc | apply Kd.R_drewN | apply Kd.R_drew)); exact HO354.out) (Kd.R_base ho0) hb); have n7_ := Aside0.mk (Kd.R_elder' (by (with_reducible repeat (first | apply Kd.R_alloc | apply Kd.R_drewN | apply Kd.R_drew)); exact HO358.out) (Kd.R_base ho0) hb); have n8_ := Aside0.mk (Kd.R_lower (Kd.R_new' (Kd.R_new' (Kd.R_new' (Kd.R_new' (Kd.R_new' (Kd.R_new' (Kd.R_new' ho0 (Kd.R_lt (by (with_reducible repeat (first | apply Kd.R_alloc | apply Kd.R_drewN | apply Kd.R_drew)); exact HO331.out))) (Kd.R_lt (by (with_reducible repeat (first | apply Kd.R_alloc | apply Kd.R_drewN | apply Kd.R_drew)); exact HO338.out))) (Kd.R_lt (by (with_reducible repeat (first | apply Kd.R_alloc | apply Kd.R_drewN | apply Kd.R_drew)); exact HO342.out))) (Kd.R_lt (by (with_reducible repeat (first | apply Kd.R_alloc | apply Kd.R_drewN | apply Kd.R_drew)); exact HO345.out))) (Kd.R_lt (by (with_reducible repeat (first | apply Kd.R_alloc | apply Kd.R_drewN | apply Kd.R_drew)); exact HO350.out))) (Kd.R_lt (by (with_reducible repeat (first | apply Kd.R_alloc | apply Kd.R_drewN | apply Kd.R_drew)); exact HO354.out))) (Kd.R_lt (by (with_reducible repeat (first | apply Kd.R_alloc | apply Kd.R_drewN | apply Kd.R_drew)); exact HO358.out))) (below_size (by repeat (first | (with_reducible first | exact HB.out | apply below_alloc | apply pw_below_drewN | apply below_drew1) | exact HB.out)))); have n9_ := Aside0.mk (below_step (by repeat (first | (with_reducible first | exact HB.out | apply below_alloc | apply pw_below_drewN | apply below_drew1) | exact HB.out)) hb); clear HO331; clear HO334; clear HO338; clear HO342; clear HO345; clear HO350; clear HO354; clear HO358; clear HB; have HO331 := n0_; have HO334 := n1_; have HO338 := n2_; have HO342 := n3_; have HO345 := n4_; have HO350 := n5_; have HO354 := n6_; have HO358 := n7_; have HO362 := n8_; have HB := n9_; clear n0_ n1_ n2_ n3_ n4_ n5_ n6_ n7_ n8_ n9_; (try clear hb); (try clear hb2); (try clear hk); (try clear hi); (try clear ho0)) | ((with_reducible refine gate_callee (f := 49) rfl ?_); refine goesL_ (some 50) rfl rfl Try.func49 (by kernel_rfl) rfl #[.string (⟨#[]⟩ : ByteArray), .int .i64 4097] rfl (by (try simp only [List.map_toArray, List.map_cons, List.map_nil]); first | done | rfl | (simp only [List.length_drop, List.length_take]; rfl)) ?_; (with_reducible refine (runs_Decode.calls k (⟨#[]⟩ : ByteArray) 4097 t363 t364 _ A9.out).mono ?_); rintro e w42 ⟨v365, rfl, ho0, hb⟩; refine ⟨_, rfl, ?_⟩; have n0_ := Aside0.mk (Kd.R_elder' (by (with_reducible repeat (first | apply Kd.R_alloc | apply Kd.R_drewN | apply Kd.R_drew)); exact HO331.out) (Kd.R_base ho0) hb); have n1_ := Aside0.mk (Kd.R_below (by (with_reducible repeat (first | apply Kd.R_alloc | apply Kd.R_drewN | apply Kd.R_drew)); exact HO334.out) hb); have n2_ := Aside0.mk (Kd.R_elder' (by (with_reducible repeat (first | apply Kd.R_alloc | apply Kd.R_drewN | apply Kd.R_drew)); exact HO338.out) (Kd.R_base ho0) hb); have n3_ := Aside0.mk (Kd.R_elder' (by (with_reducible repeat (first | apply Kd.R_alloc | apply Kd.R_drewN | apply Kd.R_drew)); exact HO342.out) (Kd.R_base ho0) hb); have n4_ := Aside0.mk (Kd.R_elder' (by (with_reducible repeat (first | apply Kd.R_alloc | apply Kd.R_drewN | apply Kd.R_drew)); exact HO345.out) (Kd.R_base ho0) hb); have n5_ := Aside0.mk (Kd.R_elder' (by (with_reducible repeat (first | apply Kd.R_alloc | apply Kd.R_drewN | apply Kd.R_drew)); exact HO350.out) (Kd.R_base ho0) hb); have n6_ := Aside0.mk (Kd.R_elder' (by (with_reducible repeat (first | apply Kd.R_alloc | apply Kd.R_drewN | apply Kd.R_drew)); exact HO354.out) (Kd.R_base ho0) hb); have n7_ := Aside0.mk (Kd.R_elder' (by (with_reducible repeat (first | apply Kd.R_alloc | apply Kd.R_drewN | apply Kd.R_drew)); exact HO358.out) (Kd.R_base ho0) hb); have n8_ := Aside0.mk (Kd.R_elder' (by (with_reducible repeat (first | apply Kd.R_alloc | apply Kd.R_drewN | apply Kd.R_drew)); exact HO362.out) (Kd.R_base ho0) hb); have n9_ := Aside0.mk (Kd.R_lower (Kd.R_new' (Kd.R_new' (Kd.R_new' (Kd.R_new' (Kd.R_new' (Kd.R_new' (Kd.R_new' (Kd.R_new' ho0 (Kd.R_lt (by (with_reducible repeat (first | apply Kd.R_alloc | apply Kd.R_drewN | apply Kd.R_drew)); exact HO331.out))) (Kd.R_lt (by (with_reducible repeat (first | apply Kd.R_alloc | apply Kd.R_drewN | apply Kd.R_drew)); exact HO338.out))) (Kd.R_lt (by (with_reducible repeat (first | apply Kd.R_alloc | apply Kd.R_drewN | apply Kd.R_drew)); exact HO342.out))) (Kd.R_lt (by (with_reducible repeat (first | apply Kd.R_alloc | apply Kd.R_drewN | apply Kd.R_drew)); exact HO345.out))) (Kd.R_lt (by (with_reducible repeat (first | apply Kd.R_alloc | apply Kd.R_drewN | apply Kd.R_drew)); exact HO350.out))) (Kd.R_lt (by (with_reducible repeat (first | apply Kd.R_alloc | apply Kd.R_drewN | apply Kd.R_drew)); exact HO354.out))) (Kd.R_lt (by (with_reducible repeat (first | apply Kd.R_alloc | apply Kd.R_drewN | apply Kd.R_drew)); exact HO358.out))) (Kd.R_lt (by (with_reducible repeat (first | apply Kd.R_alloc | apply Kd.R_drewN | apply Kd.R_drew)); exact HO362.out))) (below_size (by repeat (first | (with_reducible first | exact HB.out | apply below_alloc | apply pw_below_drewN | apply below_drew1) | exact HB.out)))); have n10_ := Aside0.mk (below_step (by repeat (first | (with_reducible first | exact HB.out | apply below_alloc | apply pw_below_drewN | apply below_drew1) | exact HB.out)) hb); clear HO331; clear HO334; clear HO338; clear HO342; clear HO345; clear HO350; clear HO354; clear HO358; clear HO362; clear HB; have HO331 := n0_; have HO334 := n1_; have HO338 := n2_; have HO342 := n3_; have HO345 := n4_; have HO350 := n5_; have HO354 := n6_; have HO358 := n7_; have HO362 := n8_; have HO366 := n9_; have HB := n10_; clear n0_ n1_ n2_ n3_ n4_ n5_ n6_ n7_ n8_ n9_ n10_; (try clear hb); (try clear hb2); (try clear hk); (try clear hi); (try clear ho0)) | ((with_reducible refine gate_dst (N := 56) rfl ?_); (try (refine gate_guard (by rfl) ?_; dsimp only)); refine Kd.R_lit k53 _ 53 ?hg (N := 56) ?hd (xs := ([(⟨7, 2⟩ : S53), (⟨0, 1⟩ : S53)] : List (S53))) (inner := [.int .u64 7, .int .i64 2, .int .u64 0, .int .i64 1]) (ok := fun _ => True) (okp := fun _ => True) ?hr ?hp (fun _ hk => hk) trivial (Below.refl _ _) (Nat.le_refl _) (by simp) ?_; (case hd => rfl); (case hg => rfl); (case hr => first | (go_simp; done) | (go_simp; rfl)); (case hp => exact (Reps.c2 (show Kd.M k53 _ _ _ (⟨7, 2⟩ : S53) [.int .u64 7, .int .i64 2] from (k53_mkM _ _ _ (⟨7, 2⟩ : S53) )) (Reps.c2 (show Kd.M k53 _ _ _ (⟨0, 1⟩ : S53) [.int .u64 0, .int .i64 1] from (k53_mkM _ _ _ (⟨0, 1⟩ : S53) )) (Reps.none _ _)))); intro v368 w43 ho44 hb hg_ hnew_; clear hg_ hnew_; (first | rw [← Ny367.out] at ho44 | (simp only [Int.reduceToNat] at ho44; rw [← Ny367.out] at ho44)); have n0_ := Aside0.mk (Kd.R_below (by (with_reducible repeat (first | apply Kd.R_alloc | apply Kd.R_drewN | apply Kd.R_drew)); exact HO331.out) hb); have n1_ := Aside0.mk (Kd.R_elder' (by (with_reducible repeat (first | apply Kd.R_alloc | apply Kd.R_drewN | apply Kd.R_drew)); exact HO334.out) (Kd.R_base ho44) hb); have n2_ := Aside0.mk (Kd.R_below (by (with_reducible repeat (first | apply Kd.R_alloc | apply Kd.R_drewN | apply Kd.R_drew)); exact HO338.out) hb); have n3_ := Aside0.mk (Kd.R_below (by (with_reducible repeat (first | apply Kd.R_alloc | apply Kd.R_drewN | apply Kd.R_drew)); exact HO342.out) hb); have n4_ := Aside0.mk (Kd.R_below (by (with_reducible repeat (first | apply Kd.R_alloc | apply Kd.R_drewN | apply Kd.R_drew)); exact HO345.out) hb); have n5_ := Aside0.mk (Kd.R_below (by (with_reducible repeat (first | apply Kd.R_alloc | apply Kd.R_drewN | apply Kd.R_drew)); exact HO350.out) hb); have n6_ := Aside0.mk (Kd.R_below (by (with_reducible repeat (first | apply Kd.R_alloc | apply Kd.R_drewN | apply Kd.R_drew)); exact HO354.out) hb); have n7_ := Aside0.mk (Kd.R_below (by (with_reducible repeat (first | apply Kd.R_alloc | apply Kd.R_drewN | apply Kd.R_drew)); exact HO358.out) hb); have n8_ := Aside0.mk (Kd.R_below (by (with_reducible repeat (first | apply Kd.R_alloc | apply Kd.R_drewN | apply Kd.R_drew)); exact HO362.out) hb); have n9_ := Aside0.mk (Kd.R_below (by (with_reducible repeat (first | apply Kd.R_alloc | apply Kd.R_drewN | apply Kd.R_drew)); exact HO366.out) hb); have n10_ := Aside0.mk (Kd.R_lower (Kd.R_new' ho44 (Kd.R_lt (by (with_reducible repeat (first | apply Kd.R_alloc | apply Kd.R_drewN | apply Kd.R_drew)); exact HO334.out))) (below_size (by repeat (first | (with_reducible first | exact HB.out | apply below_alloc | apply pw_below_drewN | apply below_drew1) | exact HB.out)))); have n11_ := Aside0.mk (below_step (by repeat (first | (with_reducible first | exact HB.out | apply below_alloc | apply pw_below_drewN | apply below_drew1) | exact HB.out)) hb); clear HO331; clear HO334; clear HO338; clear HO342; clear HO345; clear HO350; clear HO354; clear HO358; clear HO362; clear HO366; clear HB; have HO331 := n0_; have HO334 := n1_; have HO338 := n2_; have HO342 := n3_; have HO345 := n4_; have HO350 := n5_; have HO354 := n6_; have HO358 := n7_; have HO362 := n8_; have HO366 := n9_; have HO369 := n10_; have HB := n11_; clear n0_ n1_ n2_ n3_ n4_ n5_ n6_ n7_ n8_ n9_ n10_ n11_; clear hb ho44; obtain ⟨Ao45, co45, eo45⟩ := Kd.R_slice HO369.out; subst eo45) | ((with_reducible refine gate_callee (f := 41) rfl ?_); refine goesL_ (some 57) rfl rfl Try.func41 (by kernel_rfl) rfl #[.slice Ao31 t332.length co31, .slice Ao45 y367.length co45] rfl (by (try simp only [List.map_toArray, List.map_cons, List.map_nil]); first | done | rfl | (simp only [List.length_drop, List.length_take]; rfl)) ?_; (with_reducible refine (bonsairef06_SameRuns.calls k _ _ t332 _ _ y367 true _ ?side1 ?side2 ?side3 ?side4 A10.out).mono ?_); (case side1 => repeat (first | exact (Kd.R_reads' HO334.out).2.2 | (with_reducible refine Kd.C_alloc ?_ _) | (with_reducible refine Kd.C_drewN ?_ _) | (with_reducible refine Kd.C_drew ?_))); (case side2 => exact (Kd.R_reads' HO334.out).2.1); (case side3 => repeat (first | exact (Kd.R_reads' HO369.out).2.2 | (with_reducible refine Kd.C_alloc ?_ _) | (with_reducible refine Kd.C_drewN ?_ _) | (with_reducible refine Kd.C_drew ?_))); (case side4 => exact (Kd.R_reads' HO369.out).2.1); rintro e w' ⟨rfl, ⟨nd, rfl⟩⟩; refine ⟨_, rfl, ?_⟩) | ((with_reducible refine gate_dst (N := 60) rfl ?_); (try (refine gate_guard (by rfl) ?_; dsimp only)); refine Kd.R_lit (Kd.int .u64) _ 51 ?hg (N := 60) ?hd (xs := ([7, 7, 0] : List Int)) (inner := [.int .u64 7, .int .u64 7, .int .u64 0]) (ok := fun _ => True) (okp := fun _ => True) ?hr ?hp (fun _ hk => hk) trivial (Below.refl _ _) (Nat.le_refl _) (by simp) ?_; (case hd => rfl); (case hg => rfl); (case hr => first | (go_simp; done) | (go_simp; rfl)); (case hp => exact (Reps.one (show Kd.M (Kd.int .u64) _ _ _ 7 [.int .u64 7] from rfl) (Reps.one (show Kd.M (Kd.int .u64) _ _ _ 7 [.int .u64 7] from rfl) (Reps.one (show Kd.M (Kd.int .u64) _ _ _ 0 [.int .u64 0] from rfl) (Reps.none _ _))))); intro v372 w46 ho47 hb hg_ hnew_; clear hg_ hnew_; (first | rw [← Ny371.out] at ho47 | (simp only [Int.reduceToNat] at ho47; rw [← Ny371.out] at ho47)); have n0_ := Aside0.mk (Kd.R_elder' (by (with_reducible repeat (first | apply Kd.R_alloc | apply Kd.R_drewN | apply Kd.R_drew)); exact HO331.out) (Kd.R_base ho47) hb); have n1_ := Aside0.mk (Kd.R_below (by (with_reducible repeat (first | apply Kd.R_alloc | apply Kd.R_drewN | apply Kd.R_drew)); exact HO334.out) hb); have n2_ := Aside0.mk (Kd.R_elder' (by (with_reducible repeat (first | apply Kd.R_alloc | apply Kd.R_drewN | apply Kd.R_drew)); exact HO338.out) (Kd.R_base ho47) hb); have n3_ := Aside0.mk (Kd.R_elder' (by (with_reducible repeat (first | apply Kd.R_alloc | apply Kd.R_drewN | apply Kd.R_drew)); exact HO342.out) (Kd.R_base ho47) hb); have n4_ := Aside0.mk (Kd.R_elder' (by (with_reducible repeat (first | apply Kd.R_alloc | apply Kd.R_drewN | apply Kd.R_drew)); exact HO345.out) (Kd.R_base ho47) hb); have n5_ := Aside0.mk (Kd.R_elder' (by (with_reducible repeat (first | apply Kd.R_alloc | apply Kd.R_drewN | apply Kd.R_drew)); exact HO350.out) (Kd.R_base ho47) hb); have n6_ := Aside0.mk (Kd.R_elder' (by (with_reducible repeat (first | apply Kd.R_alloc | apply Kd.R_drewN | apply Kd.R_drew)); exact HO354.out) (Kd.R_base ho47) hb); have n7_ := Aside0.mk (Kd.R_elder' (by (with_reducible repeat (first | apply Kd.R_alloc | apply Kd.R_drewN | apply Kd.R_drew)); exact HO358.out) (Kd.R_base ho47) hb); have n8_ := Aside0.mk (Kd.R_elder' (by (with_reducible repeat (first | apply Kd.R_alloc | apply Kd.R_drewN | apply Kd.R_drew)); exact HO362.out) (Kd.R_base ho47) hb); have n9_ := Aside0.mk (Kd.R_elder' (by (with_reducible repeat (first | apply Kd.R_alloc | apply Kd.R_drewN | apply Kd.R_drew)); exact HO366.out) (Kd.R_base ho47) hb); have n10_ := Aside0.mk (Kd.R_below (by (with_reducible repeat (first | apply Kd.R_alloc | apply Kd.R_drewN | apply Kd.R_drew)); exact HO369.out) hb); have n11_ := Aside0.mk (Kd.R_lower (Kd.R_new' (Kd.R_new' (Kd.R_new' (Kd.R_new' (Kd.R_new' (Kd.R_new' (Kd.R_new' (Kd.R_new' (Kd.R_new' ho47 (Kd.R_lt (by (with_reducible repeat (first | apply Kd.R_alloc | apply Kd.R_drewN | apply Kd.R_drew)); exact HO331.out))) (Kd.R_lt (by (with_reducible repeat (first | apply Kd.R_alloc | apply Kd.R_drewN | apply Kd.R_drew)); exact HO338.out))) (Kd.R_lt (by (with_reducible repeat (first | apply Kd.R_alloc | apply Kd.R_drewN | apply Kd.R_drew)); exact HO342.out))) (Kd.R_lt (by (with_reducible repeat (first | apply Kd.R_alloc | apply Kd.R_drewN | apply Kd.R_drew)); exact HO345.out))) (Kd.R_lt (by (with_reducible repeat (first | apply Kd.R_alloc | apply Kd.R_drewN | apply Kd.R_drew)); exact HO350.out))) (Kd.R_lt (by (with_reducible repeat (first | apply Kd.R_alloc | apply Kd.R_drewN | apply Kd.R_drew)); exact HO354.out))) (Kd.R_lt (by (with_reducible repeat (first | apply Kd.R_alloc | apply Kd.R_drewN | apply Kd.R_drew)); exact HO358.out))) (Kd.R_lt (by (with_reducible repeat (first | apply Kd.R_alloc | apply Kd.R_drewN | apply Kd.R_drew)); exact HO362.out))) (Kd.R_lt (by (with_reducible repeat (first | apply Kd.R_alloc | apply Kd.R_drewN | apply Kd.R_drew)); exact HO366.out))) (below_size (by repeat (first | (with_reducible first | exact HB.out | apply below_alloc | apply pw_below_drewN | apply below_drew1) | exact HB.out)))); have n12_ := Aside0.mk (below_step (by repeat (first | (with_reducible first | exact HB.out | apply below_alloc | apply pw_below_drewN | apply below_drew1) | exact HB.out)) hb); clear HO331; clear HO334; clear HO338; clear HO342; clear HO345; clear HO350; clear HO354; clear HO358; clear HO362; clear HO366; clear HO369; clear HB; have HO331 := n0_; have HO334 := n1_; have HO338 := n2_; have HO342 := n3_; have HO345 := n4_; have HO350 := n5_; have HO354 := n6_; have HO358 := n7_; have HO362 := n8_; have HO366 := n9_; have HO369 := n10_; have HO373 := n11_; have HB := n12_; clear n0_ n1_ n2_ n3_ n4_ n5_ n6_ n7_ n8_ n9_ n10_ n11_ n12_; clear hb ho47; obtain ⟨Ao48, co48, eo48⟩ := Kd.R_slice HO338.out; subst eo48; obtain ⟨Ao49, co49, eo49⟩ := Kd.R_slice HO373.out; subst eo49) | (go_at_call 48; (with_reducible refine (bonsairef06_Same.calls k _ _ t335 _ _ y371 true _ ?side1 ?side2 ?side3 ?side4 A12.out).mono ?_); (case side1 => repeat (first | exact (Kd.R_reads' HO338.out).2.2 | (with_reducible refine Kd.C_alloc ?_ _) | (with_reducible refine Kd.C_drewN ?_ _) | (with_reducible refine Kd.C_drew ?_))); (case side2 => exact (Kd.R_reads' HO338.out).2.1); (case side3 => repeat (first | exact (Kd.R_reads' HO373.out).2.2 | (with_reducible refine Kd.C_alloc ?_ _) | (with_reducible refine Kd.C_drewN ?_ _) | (with_reducible refine Kd.C_drew ?_))); (case side4 => exact (Kd.R_reads' HO373.out).2.1); rintro e w' ⟨rfl, ⟨nd, rfl⟩⟩; obtain ⟨Ao50, co50, eo50⟩ := Kd.R_slice HO350.out; subst eo50) | (go_at_call 48; (with_reducible refine (bonsairef06_Same.calls k _ _ t347 _ _ t335 true _ ?side1 ?side2 ?side3 ?side4 A17.out).mono ?_); (case side1 => repeat (first | exact (Kd.R_reads' HO350.out).2.2 | (with_reducible refine Kd.C_alloc ?_ _) | (with_reducible refine Kd.C_drewN ?_ _) | (with_reducible refine Kd.C_drew ?_))); (case side2 => exact (Kd.R_reads' HO350.out).2.1); (case side3 => repeat (first | exact (Kd.R_reads' HO338.out).2.2 | (with_reducible refine Kd.C_alloc ?_ _) | (with_reducible refine Kd.C_drewN ?_ _) | (with_reducible refine Kd.C_drew ?_))); (case side4 => exact (Kd.R_reads' HO338.out).2.1); rintro e w' ⟨rfl, ⟨nd, rfl⟩⟩) | (go_at_call 46; (with_reducible refine (runs_May.calls k _ _ t332 true _ ?side1 ?side2 A24.out).mono ?_); (case side1 => repeat (first | exact (Kd.R_reads' HO334.out).2.2 | (with_reducible refine Kd.C_alloc ?_ _) | (with_reducible refine Kd.C_drewN ?_ _) | (with_reducible refine Kd.C_drew ?_))); (case side2 => exact (Kd.R_reads' HO334.out).2.1); rintro e w51 ⟨rfl, hb⟩; have n0_ := Aside0.mk (Kd.R_below (by (with_reducible repeat (first | apply Kd.R_alloc | apply Kd.R_drewN | apply Kd.R_drew)); exact HO331.out) hb); have n1_ := Aside0.mk (Kd.R_below (by (with_reducible repeat (first | apply Kd.R_alloc | apply Kd.R_drewN | apply Kd.R_drew)); exact HO334.out) hb); have n2_ := Aside0.mk (Kd.R_below (by (with_reducible repeat (first | apply Kd.R_alloc | apply Kd.R_drewN | apply Kd.R_drew)); exact HO338.out) hb); have n3_ := Aside0.mk (Kd.R_below (by (with_reducible repeat (first | apply Kd.R_alloc | apply Kd.R_drewN | apply Kd.R_drew)); exact HO342.out) hb); have n4_ := Aside0.mk (Kd.R_below (by (with_reducible repeat (first | apply Kd.R_alloc | apply Kd.R_drewN | apply Kd.R_drew)); exact HO345.out) hb); have n5_ := Aside0.mk (Kd.R_below (by (with_reducible repeat (first | apply Kd.R_alloc | apply Kd.R_drewN | apply Kd.R_drew)); exact HO350.out) hb); have n6_ := Aside0.mk (Kd.R_below (by (with_reducible repeat (first | apply Kd.R_alloc | apply Kd.R_drewN | apply Kd.R_drew)); exact HO354.out) hb); have n7_ := Aside0.mk (Kd.R_below (by (with_reducible repeat (first | apply Kd.R_alloc | apply Kd.R_drewN | apply Kd.R_drew)); exact HO358.out) hb); have n8_ := Aside0.mk (Kd.R_below (by (with_reducible repeat (first | apply Kd.R_alloc | apply Kd.R_drewN | apply Kd.R_drew)); exact HO362.out) hb); have n9_ := Aside0.mk (Kd.R_below (by (with_reducible repeat (first | apply Kd.R_alloc | apply Kd.R_drewN | apply Kd.R_drew)); exact HO366.out) hb); have n10_ := Aside0.mk (Kd.R_below (by (with_reducible repeat (first | apply Kd.R_alloc | apply Kd.R_drewN | apply Kd.R_drew)); exact HO369.out) hb); have n11_ := Aside0.mk (Kd.R_below (by (with_reducible repeat (first | apply Kd.R_alloc | apply Kd.R_drewN | apply Kd.R_drew)); exact HO373.out) hb); have n12_ := Aside0.mk (below_step (by repeat (first | (with_reducible first | exact HB.out | apply below_alloc | apply pw_below_drewN | apply below_drew1) | exact HB.out)) hb); clear HO331; clear HO334; clear HO338; clear HO342; clear HO345; clear HO350; clear HO354; clear HO358; clear HO362; clear HO366; clear HO369; clear HO373; clear HB; have HO331 := n0_; have HO334 := n1_; have HO338 := n2_; have HO342 := n3_; have HO345 := n4_; have HO350 := n5_; have HO354 := n6_; have HO358 := n7_; have HO362 := n8_; have HO366 := n9_; have HO369 := n10_; have HO373 := n11_; have HB := n12_; clear n0_ n1_ n2_ n3_ n4_ n5_ n6_ n7_ n8_ n9_ n10_ n11_ n12_; (try clear hb); (try clear hb2); (try clear hk); (try clear hi)) | ((with_reducible refine gate_dst (N := 105) rfl ?_); (try (refine gate_guard (by rfl) ?_; dsimp only)); refine Kd.R_lit k53 _ 53 ?hg (N := 105) ?hd (xs := ([(⟨1, 0⟩ : S53)] : List (S53))) (inner := [.int .u64 1, .int .i64 0]) (ok := fun _ => True) (okp := fun _ => True) ?hr ?hp (fun _ hk => hk) trivial (Below.refl _ _) (Nat.le_refl _) (by simp) ?_; (case hd => rfl); (case hg => rfl); (case hr => first | (go_simp; done) | (go_simp; rfl)); (case hp => exact (Reps.c2 (show Kd.M k53 _ _ _ (⟨1, 0⟩ : S53) [.int .u64 1, .int .i64 0] from (k53_mkM _ _ _ (⟨1, 0⟩ : S53) )) (Reps.none _ _))); intro v378 w52 ho53 hb hg_ hnew_; clear hg_ hnew_; (first | rw [← Ny377.out] at ho53 | (simp only [Int.reduceToNat] at ho53; rw [← Ny377.out] at ho53)); have n0_ := Aside0.mk (Kd.R_below (by (with_reducible repeat (first | apply Kd.R_alloc | apply Kd.R_drewN | apply Kd.R_drew)); exact HO331.out) hb); have n1_ := Aside0.mk (Kd.R_elder' (by (with_reducible repeat (first | apply Kd.R_alloc | apply Kd.R_drewN | apply Kd.R_drew)); exact HO334.out) (Kd.R_base ho53) hb); have n2_ := Aside0.mk (Kd.R_below (by (with_reducible repeat (first | apply Kd.R_alloc | apply Kd.R_drewN | apply Kd.R_drew)); exact HO338.out) hb); have n3_ := Aside0.mk (Kd.R_below (by (with_reducible repeat (first | apply Kd.R_alloc | apply Kd.R_drewN | apply Kd.R_drew)); exact HO342.out) hb); have n4_ := Aside0.mk (Kd.R_below (by (with_reducible repeat (first | apply Kd.R_alloc | apply Kd.R_drewN | apply Kd.R_drew)); exact HO345.out) hb); have n5_ := Aside0.mk (Kd.R_below (by (with_reducible repeat (first | apply Kd.R_alloc | apply Kd.R_drewN | apply Kd.R_drew)); exact HO350.out) hb); have n6_ := Aside0.mk (Kd.R_below (by (with_reducible repeat (first | apply Kd.R_alloc | apply Kd.R_drewN | apply Kd.R_drew)); exact HO354.out) hb); have n7_ := Aside0.mk (Kd.R_below (by (with_reducible repeat (first | apply Kd.R_alloc | apply Kd.R_drewN | apply Kd.R_drew)); exact HO358.out) hb); have n8_ := Aside0.mk (Kd.R_below (by (with_reducible repeat (first | apply Kd.R_alloc | apply Kd.R_drewN | apply Kd.R_drew)); exact HO362.out) hb); have n9_ := Aside0.mk (Kd.R_below (by (with_reducible repeat (first | apply Kd.R_alloc | apply Kd.R_drewN | apply Kd.R_drew)); exact HO366.out) hb); have n10_ := Aside0.mk (Kd.R_elder' (by (with_reducible repeat (first | apply Kd.R_alloc | apply Kd.R_drewN | apply Kd.R_drew)); exact HO369.out) (Kd.R_base ho53) hb); have n11_ := Aside0.mk (Kd.R_below (by (with_reducible repeat (first | apply Kd.R_alloc | apply Kd.R_drewN | apply Kd.R_drew)); exact HO373.out) hb); have n12_ := Aside0.mk (Kd.R_lower (Kd.R_new' (Kd.R_new' ho53 (Kd.R_lt (by (with_reducible repeat (first | apply Kd.R_alloc | apply Kd.R_drewN | apply Kd.R_drew)); exact HO334.out))) (Kd.R_lt (by (with_reducible repeat (first | apply Kd.R_alloc | apply Kd.R_drewN | apply Kd.R_drew)); exact HO369.out))) (below_size (by repeat (first | (with_reducible first | exact HB.out | apply below_alloc | apply pw_below_drewN | apply below_drew1) | exact HB.out)))); have n13_ := Aside0.mk (below_step (by repeat (first | (with_reducible first | exact HB.out | apply below_alloc | apply pw_below_drewN | apply below_drew1) | exact HB.out)) hb); clear HO331; clear HO334; clear HO338; clear HO342; clear HO345; clear HO350; clear HO354; clear HO358; clear HO362; clear HO366; clear HO369; clear HO373; clear HB; have HO331 := n0_; have HO334 := n1_; have HO338 := n2_; have HO342 := n3_; have HO345 := n4_; have HO350 := n5_; have HO354 := n6_; have HO358 := n7_; have HO362 := n8_; have HO366 := n9_; have HO369 := n10_; have HO373 := n11_; have HO379 := n12_; have HB := n13_; clear n0_ n1_ n2_ n3_ n4_ n5_ n6_ n7_ n8_ n9_ n10_ n11_ n12_ n13_; clear hb ho53; obtain ⟨Ao54, co54, eo54⟩ := Kd.R_slice HO379.out; subst eo54) | (go_at_call 46; (with_reducible refine (runs_May.calls k _ _ y377 t380 _ ?side1 ?side2 A26.out).mono ?_); (case side1 => repeat (first | exact (Kd.R_reads' HO379.out).2.2 | (with_reducible refine Kd.C_alloc ?_ _) | (with_reducible refine Kd.C_drewN ?_ _) | (with_reducible refine Kd.C_drew ?_))); (case side2 => exact (Kd.R_reads' HO379.out).2.1); rintro e w55 ⟨rfl, hb⟩; have n0_ := Aside0.mk (Kd.R_below (by (with_reducible repeat (first | apply Kd.R_alloc | apply Kd.R_drewN | apply Kd.R_drew)); exact HO331.out) hb); have n1_ := Aside0.mk (Kd.R_below (by (with_reducible repeat (first | apply Kd.R_alloc | apply Kd.R_drewN | apply Kd.R_drew)); exact HO334.out) hb); have n2_ := Aside0.mk (Kd.R_below (by (with_reducible repeat (first | apply Kd.R_alloc | apply Kd.R_drewN | apply Kd.R_drew)); exact HO338.out) hb); have n3_ := Aside0.mk (Kd.R_below (by (with_reducible repeat (first | apply Kd.R_alloc | apply Kd.R_drewN | apply Kd.R_drew)); exact HO342.out) hb); have n4_ := Aside0.mk (Kd.R_below (by (with_reducible repeat (first | apply Kd.R_alloc | apply Kd.R_drewN | apply Kd.R_drew)); exact HO345.out) hb); have n5_ := Aside0.mk (Kd.R_below (by (with_reducible repeat (first | apply Kd.R_alloc | apply Kd.R_drewN | apply Kd.R_drew)); exact HO350.out) hb); have n6_ := Aside0.mk (Kd.R_below (by (with_reducible repeat (first | apply Kd.R_alloc | apply Kd.R_drewN | apply Kd.R_drew)); exact HO354.out) hb); have n7_ := Aside0.mk (Kd.R_below (by (with_reducible repeat (first | apply Kd.R_alloc | apply Kd.R_drewN | apply Kd.R_drew)); exact HO358.out) hb); have n8_ := Aside0.mk (Kd.R_below (by (with_reducible repeat (first | apply Kd.R_alloc | apply Kd.R_drewN | apply Kd.R_drew)); exact HO362.out) hb); have n9_ := Aside0.mk (Kd.R_below (by (with_reducible repeat (first | apply Kd.R_alloc | apply Kd.R_drewN | apply Kd.R_drew)); exact HO366.out) hb); have n10_ := Aside0.mk (Kd.R_below (by (with_reducible repeat (first | apply Kd.R_alloc | apply Kd.R_drewN | apply Kd.R_drew)); exact HO369.out) hb); have n11_ := Aside0.mk (Kd.R_below (by (with_reducible repeat (first | apply Kd.R_alloc | apply Kd.R_drewN | apply Kd.R_drew)); exact HO373.out) hb); have n12_ := Aside0.mk (Kd.R_below (by (with_reducible repeat (first | apply Kd.R_alloc | apply Kd.R_drewN | apply Kd.R_drew)); exact HO379.out) hb); have n13_ := Aside0.mk (below_step (by repeat (first | (with_reducible first | exact HB.out | apply below_alloc | apply pw_below_drewN | apply below_drew1) | exact HB.out)) hb); clear HO331; clear HO334; clear HO338; clear HO342; clear HO345; clear HO350; clear HO354; clear HO358; clear HO362; clear HO366; clear HO369; clear HO373; clear HO379; clear HB; have HO331 := n0_; have HO334 := n1_; have HO338 := n2_; have HO342 := n3_; have HO345 := n4_; have HO350 := n5_; have HO354 := n6_; have HO358 := n7_; have HO362 := n8_; have HO366 := n9_; have HO369 := n10_; have HO373 := n11_; have HO379 := n12_; have HB := n13_; clear n0_ n1_ n2_ n3_ n4_ n5_ n6_ n7_ n8_ n9_ n10_ n11_ n12_ n13_; (try clear hb); (try clear hb2); (try clear hk); (try clear hi)))
                          go_ret
                          exact ⟨by first | rfl | (simp [errW_none, errW_some] <;> rfl) | (simp [*, errW_none, errW_some] <;> rfl), by repeat (first | (with_reducible first | exact HB.out | apply below_alloc | apply pw_below_drewN | apply below_drew1) | exact HB.out)⟩
                        · replace c25 := Bool.eq_false_iff.mpr c25
                          subst c25
                          have H1 : (none) = some r := by rw [if_neg (show ¬ (false = true) by decide)] at H; exact H
                          clear H
                          have H := H1
                          clear H1
                          exact absurd H (by simp)
                      · rw [if_neg c23] at H
                        exact absurd H (by simp)
                    · rw [if_neg c22] at H
                      exact absurd H (by simp)
                  · rw [if_neg c21] at H
                    exact absurd H (by simp)
                · rw [if_neg c20] at H
                  exact absurd H (by simp)
              · rw [if_neg c19] at H
                exact absurd H (by simp)
            · replace c18 := Bool.eq_false_iff.mpr c18
              subst c18
              have H1 : (none) = some r := by rw [if_neg (show ¬ (false = true) by decide)] at H; exact H
              clear H
              have H := H1
              clear H1
              exact absurd H (by simp)
          · rw [if_neg c16] at H
            exact absurd H (by simp)
      · replace c14 := Bool.eq_false_iff.mpr c14
        subst c14
        have H1 : (none) = some r := by rw [if_neg (show ¬ (false = true) by decide)] at H; exact H
        clear H
        have H := H1
        clear H1
        exact absurd H (by simp)
    · replace c13 := Bool.eq_false_iff.mpr c13
      subst c13
      have H1 : (none) = some r := by rw [if_neg (show ¬ (false = true) by decide)] at H; exact H
      clear H
      have H := H1
      clear H1
      exact absurd H (by simp)
  · replace c11 := Bool.eq_false_iff.mpr c11
    subst c11
    have H1 : (none) = some r := by rw [if_neg (show ¬ (false = true) by decide)] at H; exact H
    clear H
    have H := H1
    clear H1
    exact absurd H (by simp)
end Go.Proofs.Ytbgjoiccehiglaa.Print
end
section
namespace Go.Proofs.Ytbgjoiccehiglaa.Print
open Go.RowKit Go.Proofs.YtbgjoiccehiglaaW.PrintWords Go.Proofs.YtbgjoiccehiglaaW.PrintLast Go.Proofs.YtbgjoiccehiglaaW.PrintMore
attribute [local go_sem] max2_int min2_int max_two min_two max_three min_three max_four min_four
set_option linter.unusedVariables false
set_option linter.unusedSimpArgs false
attribute [local go_sem high] eqA53
mutual
def bonsailaw06_RunsFew.l0 : Nat → List Int → Int → List Int → Int → Option (Bool)
  | 0, _, _, _, _ => none
  | k + 1, x0, x3, x4, x5 => if x5 ≥ 0 then (if 0 ≤ x5 then (if x5 < (x0.length : Int) then (if x4.length < 17592186044416 then ((some (x4 ++ [rd x0 x5] : List Int)).bind fun y489 => (if x5 > 0 then (if 0 ≤ (wrap64 (x5 - 1)) then (if (wrap64 (x5 - 1)) < (x0.length : Int) then (if (rd x0 x5) = (rd x0 (wrap64 (x5 - 1))) then (bonsailaw06_RunsFew.l0 k x0 x3 y489 (wrap64 (x5 - 1))) else (bonsailaw06_RunsFew.l0 k x0 (wrap64 (x3 + 1)) y489 (wrap64 (x5 - 1)))) else (none)) else (none)) else (bonsailaw06_RunsFew.l0 k x0 x3 y489 (wrap64 (x5 - 1))))) else (none)) else (none)) else (none)) else ((runs_Runs.f k x0).bind fun t494 => ((runs_Runs.f k x4).bind fun t497 => (if (x0.length : Int) = 0 then (if (t494.length : Int) = 0 then ((bonsailaw06_live.f k).bind fun t500 => (some t500)) else (none)) else (if (t494.length : Int) = (wrap64 (x3 + 1)) then (bonsailaw06_RunsFew.j1 k x0 t494 t497 ((t497.length : Int) != (t494.length : Int))) else (bonsailaw06_RunsFew.j1 k x0 t494 t497 true)))))
def bonsailaw06_RunsFew.j1 : Nat → List Int → List (S53) → List (S53) → Bool → Option (Bool)
  | 0, _, _, _, _ => none
  | k + 1, x0, x6, x7, x68 => if x68 = true then (none) else (bonsailaw06_RunsFew.l1 k x0 x6 x7 0 0)
def bonsailaw06_RunsFew.l1 : Nat → List Int → List (S53) → List (S53) → Int → Int → Option (Bool)
  | 0, _, _, _, _, _ => none
  | k + 1, x0, x6, x7, x8, x9 => if x9 < (x6.length : Int) then (if 0 ≤ x9 then (if 0 ≤ (wrap64 ((wrap64 ((x6.length : Int) - 1)) - x9)) then (if (wrap64 ((wrap64 ((x6.length : Int) - 1)) - x9)) < (x7.length : Int) then (if (!(((rd_T53 x6 x9).f0) == ((rd_T53 x7 (wrap64 ((wrap64 ((x6.length : Int) - 1)) - x9))).f0)) || (!(((rd_T53 x6 x9).f1) == ((rd_T53 x7 (wrap64 ((wrap64 ((x6.length : Int) - 1)) - x9))).f1)))) = true then (none) else (bonsailaw06_RunsFew.l1 k x0 x6 x7 (wrap64 (x8 + ((rd_T53 x6 x9).f1))) (wrap64 (x9 + 1)))) else (none)) else (none)) else (none)) else (if x8 = (x0.length : Int) then ((bonsailaw06_live.f k).bind fun t504 => (some t504)) else (none))
end
def bonsailaw06_RunsFew.f (k : Nat) (l0 : List Int) : Option (Bool) := if (l0.length : Int) > 200 then ((bonsailaw06_live.f k).bind fun t487 => (some t487)) else (bonsailaw06_RunsFew.l0 k l0 0 ([] : List Int) (wrap64 ((l0.length : Int) - 1)))
set_option maxHeartbeats 8000000 in
set_option maxRecDepth 100000 in
theorem bonsailaw06_RunsFew.calls (k : Nat) (A0 : Option Addr) (c0 : Nat) (l0 : List Int) (r : Bool) (w : World) (hr0 : Kd.C (Kd.int .u64) w A0 l0.length l0) (hc0 : l0.length ≤ c0) (h : bonsailaw06_RunsFew.f k l0 = some r) :
    Calls Try.prog 12 #[.slice A0 l0.length c0] w fun e w' => e = .returned (.bool r) ∧ Below w.heap.size w w' := by
  have hu53 := Try.underlying53
  have HR0 := Aside0.mk hr0
  have HC0 := Aside0.mk hc0
  clear hr0 hc0
  have HB := Aside0.mk (Below.refl w.heap.size w)
  have H : (if (l0.length : Int) > 200 then ((bonsailaw06_live.f k).bind fun t487 => (some t487)) else (bonsailaw06_RunsFew.l0 k l0 0 ([] : List Int) (wrap64 ((l0.length : Int) - 1)))) = some r := h
  clear h
  by_cases c2 : (l0.length : Int) > 200
  · rw [if_pos c2] at H
    have c2b0 : decide (200 < (l0.length : Int)) = true := decide_eq_true c2
    have c2b1 : decide (200 < l0.length) = true := decide_eq_true (by omega)
    clear c2
    replace H := Option.bind_eq_some_iff.mp H
    obtain ⟨t487, A30, H⟩ := H
    replace H : (some t487) = some r := H
    have A3 := Aside0.mk A30
    clear A30
    obtain rfl := Option.some.inj H
    go_enter Try.func12, Try.ntmps12
    go_wp2_with (first | (go_at_call 38; (with_reducible refine (bonsailaw06_live.calls k  t487 _ A3.out).mono ?_); rintro e w4 ⟨rfl, hb⟩; have n0_ := Aside0.mk (below_step (by repeat (first | (with_reducible first | exact HB.out | apply below_alloc | apply pw_below_drewN | apply below_drew1) | exact HB.out)) hb); clear HB; have HB := n0_; clear n0_; (try clear hb); (try clear hb2); (try clear hk); (try clear hi)))
    repeat (go_quiet (first | (go_at_call 38; (with_reducible refine (bonsailaw06_live.calls k  t487 _ A3.out).mono ?_); rintro e w4 ⟨rfl, hb⟩; have n0_ := Aside0.mk (below_step (by repeat (first | (with_reducible first | exact HB.out | apply below_alloc | apply pw_below_drewN | apply below_drew1) | exact HB.out)) hb); clear HB; have HB := n0_; clear n0_; (try clear hb); (try clear hb2); (try clear hk); (try clear hi))); try go_wp2_with (first | (go_at_call 38; (with_reducible refine (bonsailaw06_live.calls k  t487 _ A3.out).mono ?_); rintro e w4 ⟨rfl, hb⟩; have n0_ := Aside0.mk (below_step (by repeat (first | (with_reducible first | exact HB.out | apply below_alloc | apply pw_below_drewN | apply below_drew1) | exact HB.out)) hb); clear HB; have HB := n0_; clear n0_; (try clear hb); (try clear hb2); (try clear hk); (try clear hi))))
    go_ret
    exact ⟨by first | rfl | (simp [errW_none, errW_some] <;> rfl) | (simp [*, errW_none, errW_some] <;> rfl), by repeat (first | (with_reducible first | exact HB.out | apply below_alloc | apply pw_below_drewN | apply below_drew1) | exact HB.out)⟩
  · rw [if_neg c2] at H
    have c2b0 : decide (200 < (l0.length : Int)) = false := decide_eq_false c2
    have c2b1 : decide (200 < l0.length) = false := decide_eq_false (by omega)
    clear c2
    have H' := Aside0.mk H
    clear H
    go_enter Try.func12, Try.ntmps12
    go_wp2
    repeat (go_quiet (fail); try go_wp2)
    go_loopg [3, 4, 5] k (fun kq v3 v4 v5 w' => ∃ (x3_1 : Int) (x4_1 : List Int) (x5_1 : Int), v3 = .int .i64 x3_1 ∧ v5 = .int .i64 x5_1 ∧ Aside0 (bonsailaw06_RunsFew.l0 kq l0 x3_1 x4_1 x5_1 = some r) ∧ Aside0 (kq ≤ k) ∧ Aside0 (Kd.R (Kd.int .u64) 51 w' w.heap.size (fun _ => True) v4 x4_1) ∧ Aside0 (Below w.heap.size w w'))
    case atStart => exact ⟨(0), (([] : List Int)), (wrap64 ((l0.length : Int) - 1)), (by first | rfl | (simp; done) | (simp [*]; done)), (by first | rfl | (simp; done) | (simp [*]; done)), H', ⟨Nat.le_refl _⟩, ⟨by first | exact Kd.R_nil _ _ _ _ _ | exact Kd.N_nil _ _ _ _ _ | exact Kd.V_nil _ _ _ _ _ | exact Kd.Q_nil _ _ _ _ _ | exact Kd.S_nil _ _ _ _ _⟩, ⟨by repeat (first | (with_reducible first | exact HB.out | apply below_alloc | apply pw_below_drewN | apply below_drew1) | exact HB.out)⟩⟩
    case round =>
      clear H'
      try clear c1
      try clear c2
      try clear c2b0
      try clear c2b1
      try clear p2
      obtain ⟨x3_1, x4_1, x5_1, rfl, rfl, HA, HK1, HO_4, HB⟩ := hrel
      cases gk with
      | zero => exact absurd HA.out (by simp [bonsailaw06_RunsFew.l0])
      | succ k1 =>
        have H := HA.out
        clear HA
        simp only [bonsailaw06_RunsFew.l0] at H
        by_cases c5 : x5_1 ≥ 0
        · rw [if_pos c5] at H
          have c5b0 : decide (0 ≤ x5_1) = true := decide_eq_true c5
          clear c5
          by_cases c6 : 0 ≤ x5_1
          · rw [if_pos c6] at H
            have c6b0 : decide (0 ≤ x5_1) = true := decide_eq_true c6
            clear c6
            by_cases c7 : x5_1 < (l0.length : Int)
            · rw [if_pos c7] at H
              have c7b0 : decide (x5_1 < (l0.length : Int)) = true := decide_eq_true c7
              clear c7
              by_cases c8 : x4_1.length < 17592186044416
              · rw [if_pos c8] at H
                have LMc8 := Aside0.mk c8
                clear c8
                obtain ⟨y489, hy489⟩ : ∃ y_ : List Int, y_ = (x4_1 ++ [rd l0 x5_1]) := ⟨_, rfl⟩
                replace H : (if x5_1 > 0 then (if 0 ≤ (wrap64 (x5_1 - 1)) then (if (wrap64 (x5_1 - 1)) < (l0.length : Int) then (if (rd l0 x5_1) = (rd l0 (wrap64 (x5_1 - 1))) then (bonsailaw06_RunsFew.l0 k1 l0 x3_1 y489 (wrap64 (x5_1 - 1))) else (bonsailaw06_RunsFew.l0 k1 l0 (wrap64 (x3_1 + 1)) y489 (wrap64 (x5_1 - 1)))) else (none)) else (none)) else (bonsailaw06_RunsFew.l0 k1 l0 x3_1 y489 (wrap64 (x5_1 - 1)))) = some r := by first | (rw [hy489]; with_reducible exact H) | (have H2_ := (Option.bind_some _ _).symm.trans H; rw [hy489]; with_reducible exact H2_) | (have H2_ := (Option.bind_some _ _).symm.trans H; with_reducible exact H2_) | with_reducible exact H | (rw [hy489]; exact H) | exact H
                have Ny489 := Aside0.mk hy489
                clear hy489
                by_cases c9 : x5_1 > 0
                · rw [if_pos c9] at H
                  have c9b0 : decide (0 < x5_1) = true := decide_eq_true c9
                  clear c9
                  obtain ⟨ji10, hji10⟩ : ∃ j_ : Int, (wrap64 (x5_1 - 1)) = j_ := ⟨_, rfl⟩
                  replace H : (if 0 ≤ (ji10) then (if (ji10) < (l0.length : Int) then (if (rd l0 x5_1) = (rd l0 (ji10)) then (bonsailaw06_RunsFew.l0 k1 l0 x3_1 y489 ji10) else (bonsailaw06_RunsFew.l0 k1 l0 (wrap64 (x3_1 + 1)) y489 ji10)) else (none)) else (none)) = some r := by first | (rw [hji10] at H; exact H) | (simp only [hji10] at H ⊢; exact H)
                  have hji10w : (IntKind.i64.wrap (x5_1 - 1)) = ji10 := (i64_w _).trans hji10
                  by_cases c11 : 0 ≤ (ji10)
                  · rw [if_pos c11] at H
                    have c11b0 : decide (0 ≤ (ji10)) = true := decide_eq_true c11
                    clear c11
                    by_cases c12 : (ji10) < (l0.length : Int)
                    · rw [if_pos c12] at H
                      have c12b0 : decide ((ji10) < (l0.length : Int)) = true := decide_eq_true c12
                      clear c12
                      by_cases c13 : (rd l0 x5_1) = (rd l0 (ji10))
                      · rw [if_pos c13] at H
                        have c13b0 : ((rd l0 x5_1) == (rd l0 (ji10))) = true := beq_iff_eq.mpr c13
                        have c13b1 : ((rd l0 x5_1) != (rd l0 (ji10))) = false := bne_eq_false_iff_eq.mpr c13
                        clear c13
                        have H' := Aside0.mk H
                        clear H
                        have p488 : 0 ≤ (x5_1 : Int) := of_decide_eq_true (by first | (with_reducible assumption) | assumption)
                        have q488 : x5_1 < (l0.length : Int) := of_decide_eq_true (by first | (with_reducible assumption) | assumption)
                        obtain ⟨ad488, e488, hx488_0⟩ := Kd.at_int HR0.out x5_1 p488 q488
                        cases e488
                        replace hx488_0 := (HB.out.cell (World.block_lt_of_cell? w _ hx488_0)).trans hx488_0
                        replace p488 := eq_true p488
                        replace q488 := eq_true q488
                        go_wp2_with (first | ((with_reducible refine gate_builtin (b := .append) (xs := #[.tmp 21, .tmp 26]) rfl ?_); (try (refine gate_guard (by rfl) ?_; dsimp only)); at_builtin; refine Kd.R_append (Kd.int .u64) (w0 := w) w.heap.size rfl (.tmp 21) (.tmp 26) 38 51 (.int .u64 0) 8 rfl Try.underlying38 info51 rfl (by decide) (by omega) u4 x4_1 (rd l0 x5_1) [.int .u64 (rd l0 x5_1)] (fun _ => True) (fun _ => False) rfl rfl ?aP (fun _ hk => hk.elim) ?aF ?aO ?aB ?aS ?aL ?_; (case aP => exact rfl); (case aB => exact (by repeat (first | (with_reducible first | exact HB.out | apply below_alloc | apply pw_below_drewN | apply below_drew1) | exact HB.out))); (case aF => exact (fun _ _ => trivial)); (case aO => exact (by (with_reducible repeat (first | apply Kd.R_alloc | apply Kd.R_drewN | apply Kd.R_drew)); exact HO_4.out)); (case aS => exact (below_size (by repeat (first | (with_reducible first | exact HB.out | apply below_alloc | apply pw_below_drewN | apply below_drew1) | exact HB.out)))); (case aL => have := LMc8.out; omega); intro v490 w14 ho hb hg hat; rw [← Ny489.out] at ho; have n0_ := Aside0.mk (hb); have n1_ := Aside0.mk (ho); clear HB; clear HO_4; have HB := n0_; have HO491 := n1_; clear n0_ n1_; clear ho hb hg hat; have p492 : 0 ≤ (x5_1 : Int) := of_decide_eq_true (by first | (with_reducible assumption) | assumption); have q492 : x5_1 < (l0.length : Int) := of_decide_eq_true (by first | (with_reducible assumption) | assumption); obtain ⟨ad492, e492, hx492_0⟩ := Kd.at_int HR0.out x5_1 p492 q492; obtain rfl : ad488 = ad492 := (by injection e492); replace hx492_0 := (HB.out.cell (World.block_lt_of_cell? w _ hx492_0)).trans hx492_0; replace p492 := eq_true p492; replace q492 := eq_true q492; have p493 : 0 ≤ ((ji10) : Int) := of_decide_eq_true (by first | (with_reducible assumption) | assumption); have q493 : (ji10) < (l0.length : Int) := of_decide_eq_true (by first | (with_reducible assumption) | assumption); obtain ⟨ad493, e493, hx493_0⟩ := Kd.at_int HR0.out (ji10) p493 q493; obtain rfl : ad488 = ad493 := (by injection e493); replace hx493_0 := (HB.out.cell (World.block_lt_of_cell? w _ hx493_0)).trans hx493_0; replace p493 := eq_true p493; replace q493 := eq_true q493))
                        repeat (go_quiet (first | ((with_reducible refine gate_builtin (b := .append) (xs := #[.tmp 21, .tmp 26]) rfl ?_); (try (refine gate_guard (by rfl) ?_; dsimp only)); at_builtin; refine Kd.R_append (Kd.int .u64) (w0 := w) w.heap.size rfl (.tmp 21) (.tmp 26) 38 51 (.int .u64 0) 8 rfl Try.underlying38 info51 rfl (by decide) (by omega) u4 x4_1 (rd l0 x5_1) [.int .u64 (rd l0 x5_1)] (fun _ => True) (fun _ => False) rfl rfl ?aP (fun _ hk => hk.elim) ?aF ?aO ?aB ?aS ?aL ?_; (case aP => exact rfl); (case aB => exact (by repeat (first | (with_reducible first | exact HB.out | apply below_alloc | apply pw_below_drewN | apply below_drew1) | exact HB.out))); (case aF => exact (fun _ _ => trivial)); (case aO => exact (by (with_reducible repeat (first | apply Kd.R_alloc | apply Kd.R_drewN | apply Kd.R_drew)); exact HO_4.out)); (case aS => exact (below_size (by repeat (first | (with_reducible first | exact HB.out | apply below_alloc | apply pw_below_drewN | apply below_drew1) | exact HB.out)))); (case aL => have := LMc8.out; omega); intro v490 w14 ho hb hg hat; rw [← Ny489.out] at ho; have n0_ := Aside0.mk (hb); have n1_ := Aside0.mk (ho); clear HB; clear HO_4; have HB := n0_; have HO491 := n1_; clear n0_ n1_; clear ho hb hg hat; have p492 : 0 ≤ (x5_1 : Int) := of_decide_eq_true (by first | (with_reducible assumption) | assumption); have q492 : x5_1 < (l0.length : Int) := of_decide_eq_true (by first | (with_reducible assumption) | assumption); obtain ⟨ad492, e492, hx492_0⟩ := Kd.at_int HR0.out x5_1 p492 q492; obtain rfl : ad488 = ad492 := (by injection e492); replace hx492_0 := (HB.out.cell (World.block_lt_of_cell? w _ hx492_0)).trans hx492_0; replace p492 := eq_true p492; replace q492 := eq_true q492; have p493 : 0 ≤ ((ji10) : Int) := of_decide_eq_true (by first | (with_reducible assumption) | assumption); have q493 : (ji10) < (l0.length : Int) := of_decide_eq_true (by first | (with_reducible assumption) | assumption); obtain ⟨ad493, e493, hx493_0⟩ := Kd.at_int HR0.out (ji10) p493 q493; obtain rfl : ad488 = ad493 := (by injection e493); replace hx493_0 := (HB.out.cell (World.block_lt_of_cell? w _ hx493_0)).trans hx493_0; replace p493 := eq_true p493; replace q493 := eq_true q493)); try go_wp2_with (first | ((with_reducible refine gate_builtin (b := .append) (xs := #[.tmp 21, .tmp 26]) rfl ?_); (try (refine gate_guard (by rfl) ?_; dsimp only)); at_builtin; refine Kd.R_append (Kd.int .u64) (w0 := w) w.heap.size rfl (.tmp 21) (.tmp 26) 38 51 (.int .u64 0) 8 rfl Try.underlying38 info51 rfl (by decide) (by omega) u4 x4_1 (rd l0 x5_1) [.int .u64 (rd l0 x5_1)] (fun _ => True) (fun _ => False) rfl rfl ?aP (fun _ hk => hk.elim) ?aF ?aO ?aB ?aS ?aL ?_; (case aP => exact rfl); (case aB => exact (by repeat (first | (with_reducible first | exact HB.out | apply below_alloc | apply pw_below_drewN | apply below_drew1) | exact HB.out))); (case aF => exact (fun _ _ => trivial)); (case aO => exact (by (with_reducible repeat (first | apply Kd.R_alloc | apply Kd.R_drewN | apply Kd.R_drew)); exact HO_4.out)); (case aS => exact (below_size (by repeat (first | (with_reducible first | exact HB.out | apply below_alloc | apply pw_below_drewN | apply below_drew1) | exact HB.out)))); (case aL => have := LMc8.out; omega); intro v490 w14 ho hb hg hat; rw [← Ny489.out] at ho; have n0_ := Aside0.mk (hb); have n1_ := Aside0.mk (ho); clear HB; clear HO_4; have HB := n0_; have HO491 := n1_; clear n0_ n1_; clear ho hb hg hat; have p492 : 0 ≤ (x5_1 : Int) := of_decide_eq_true (by first | (with_reducible assumption) | assumption); have q492 : x5_1 < (l0.length : Int) := of_decide_eq_true (by first | (with_reducible assumption) | assumption); obtain ⟨ad492, e492, hx492_0⟩ := Kd.at_int HR0.out x5_1 p492 q492; obtain rfl : ad488 = ad492 := (by injection e492); replace hx492_0 := (HB.out.cell (World.block_lt_of_cell? w _ hx492_0)).trans hx492_0; replace p492 := eq_true p492; replace q492 := eq_true q492; have p493 : 0 ≤ ((ji10) : Int) := of_decide_eq_true (by first | (with_reducible assumption) | assumption); have q493 : (ji10) < (l0.length : Int) := of_decide_eq_true (by first | (with_reducible assumption) | assumption); obtain ⟨ad493, e493, hx493_0⟩ := Kd.at_int HR0.out (ji10) p493 q493; obtain rfl : ad488 = ad493 := (by injection e493); replace hx493_0 := (HB.out.cell (World.block_lt_of_cell? w _ hx493_0)).trans hx493_0; replace p493 := eq_true p493; replace q493 := eq_true q493)))
                        go_roundg k1
                        case measure => have := HK1.out; omega
                        case rel => exact ⟨(x3_1), (y489), (ji10), (by first | rfl | (simp; done) | (simp [*]; done)), (by first | rfl | (simp; done) | (simp only [← hji10] <;> (first | rfl | simp)) | (simp [*]; done)), H', ⟨by have := HK1.out; omega⟩, ⟨by (with_reducible repeat (first | apply Kd.R_alloc | apply Kd.R_drewN | apply Kd.R_drew)); exact HO491.out⟩, ⟨by repeat (first | (with_reducible first | exact HB.out | apply below_alloc | apply pw_below_drewN | apply below_drew1) | exact HB.out)⟩⟩
                      · rw [if_neg c13] at H
                        have c13b0 : ((rd l0 x5_1) == (rd l0 (ji10))) = false := beq_eq_false_iff_ne.mpr c13
                        have c13b1 : ((rd l0 x5_1) != (rd l0 (ji10))) = true := bne_iff_ne.mpr c13
                        have H' := Aside0.mk H
                        clear H
                        have p488 : 0 ≤ (x5_1 : Int) := of_decide_eq_true (by first | (with_reducible assumption) | assumption)
                        have q488 : x5_1 < (l0.length : Int) := of_decide_eq_true (by first | (with_reducible assumption) | assumption)
                        obtain ⟨ad488, e488, hx488_0⟩ := Kd.at_int HR0.out x5_1 p488 q488
                        cases e488
                        replace hx488_0 := (HB.out.cell (World.block_lt_of_cell? w _ hx488_0)).trans hx488_0
                        replace p488 := eq_true p488
                        replace q488 := eq_true q488
                        go_wp2_with (first | ((with_reducible refine gate_builtin (b := .append) (xs := #[.tmp 21, .tmp 26]) rfl ?_); (try (refine gate_guard (by rfl) ?_; dsimp only)); at_builtin; refine Kd.R_append (Kd.int .u64) (w0 := w) w.heap.size rfl (.tmp 21) (.tmp 26) 38 51 (.int .u64 0) 8 rfl Try.underlying38 info51 rfl (by decide) (by omega) u4 x4_1 (rd l0 x5_1) [.int .u64 (rd l0 x5_1)] (fun _ => True) (fun _ => False) rfl rfl ?aP (fun _ hk => hk.elim) ?aF ?aO ?aB ?aS ?aL ?_; (case aP => exact rfl); (case aB => exact (by repeat (first | (with_reducible first | exact HB.out | apply below_alloc | apply pw_below_drewN | apply below_drew1) | exact HB.out))); (case aF => exact (fun _ _ => trivial)); (case aO => exact (by (with_reducible repeat (first | apply Kd.R_alloc | apply Kd.R_drewN | apply Kd.R_drew)); exact HO_4.out)); (case aS => exact (below_size (by repeat (first | (with_reducible first | exact HB.out | apply below_alloc | apply pw_below_drewN | apply below_drew1) | exact HB.out)))); (case aL => have := LMc8.out; omega); intro v490 w15 ho hb hg hat; rw [← Ny489.out] at ho; have n0_ := Aside0.mk (hb); have n1_ := Aside0.mk (ho); clear HB; clear HO_4; have HB := n0_; have HO491 := n1_; clear n0_ n1_; clear ho hb hg hat; have p492 : 0 ≤ (x5_1 : Int) := of_decide_eq_true (by first | (with_reducible assumption) | assumption); have q492 : x5_1 < (l0.length : Int) := of_decide_eq_true (by first | (with_reducible assumption) | assumption); obtain ⟨ad492, e492, hx492_0⟩ := Kd.at_int HR0.out x5_1 p492 q492; obtain rfl : ad488 = ad492 := (by injection e492); replace hx492_0 := (HB.out.cell (World.block_lt_of_cell? w _ hx492_0)).trans hx492_0; replace p492 := eq_true p492; replace q492 := eq_true q492; have p493 : 0 ≤ ((ji10) : Int) := of_decide_eq_true (by first | (with_reducible assumption) | assumption); have q493 : (ji10) < (l0.length : Int) := of_decide_eq_true (by first | (with_reducible assumption) | assumption); obtain ⟨ad493, e493, hx493_0⟩ := Kd.at_int HR0.out (ji10) p493 q493; obtain rfl : ad488 = ad493 := (by injection e493); replace hx493_0 := (HB.out.cell (World.block_lt_of_cell? w _ hx493_0)).trans hx493_0; replace p493 := eq_true p493; replace q493 := eq_true q493))
                        repeat (go_quiet (first | ((with_reducible refine gate_builtin (b := .append) (xs := #[.tmp 21, .tmp 26]) rfl ?_); (try (refine gate_guard (by rfl) ?_; dsimp only)); at_builtin; refine Kd.R_append (Kd.int .u64) (w0 := w) w.heap.size rfl (.tmp 21) (.tmp 26) 38 51 (.int .u64 0) 8 rfl Try.underlying38 info51 rfl (by decide) (by omega) u4 x4_1 (rd l0 x5_1) [.int .u64 (rd l0 x5_1)] (fun _ => True) (fun _ => False) rfl rfl ?aP (fun _ hk => hk.elim) ?aF ?aO ?aB ?aS ?aL ?_; (case aP => exact rfl); (case aB => exact (by repeat (first | (with_reducible first | exact HB.out | apply below_alloc | apply pw_below_drewN | apply below_drew1) | exact HB.out))); (case aF => exact (fun _ _ => trivial)); (case aO => exact (by (with_reducible repeat (first | apply Kd.R_alloc | apply Kd.R_drewN | apply Kd.R_drew)); exact HO_4.out)); (case aS => exact (below_size (by repeat (first | (with_reducible first | exact HB.out | apply below_alloc | apply pw_below_drewN | apply below_drew1) | exact HB.out)))); (case aL => have := LMc8.out; omega); intro v490 w15 ho hb hg hat; rw [← Ny489.out] at ho; have n0_ := Aside0.mk (hb); have n1_ := Aside0.mk (ho); clear HB; clear HO_4; have HB := n0_; have HO491 := n1_; clear n0_ n1_; clear ho hb hg hat; have p492 : 0 ≤ (x5_1 : Int) := of_decide_eq_true (by first | (with_reducible assumption) | assumption); have q492 : x5_1 < (l0.length : Int) := of_decide_eq_true (by first | (with_reducible assumption) | assumption); obtain ⟨ad492, e492, hx492_0⟩ := Kd.at_int HR0.out x5_1 p492 q492; obtain rfl : ad488 = ad492 := (by injection e492); replace hx492_0 := (HB.out.cell (World.block_lt_of_cell? w _ hx492_0)).trans hx492_0; replace p492 := eq_true p492; replace q492 := eq_true q492; have p493 : 0 ≤ ((ji10) : Int) := of_decide_eq_true (by first | (with_reducible assumption) | assumption); have q493 : (ji10) < (l0.length : Int) := of_decide_eq_true (by first | (with_reducible assumption) | assumption); obtain ⟨ad493, e493, hx493_0⟩ := Kd.at_int HR0.out (ji10) p493 q493; obtain rfl : ad488 = ad493 := (by injection e493); replace hx493_0 := (HB.out.cell (World.block_lt_of_cell? w _ hx493_0)).trans hx493_0; replace p493 := eq_true p493; replace q493 := eq_true q493)); try go_wp2_with (first | ((with_reducible refine gate_builtin (b := .append) (xs := #[.tmp 21, .tmp 26]) rfl ?_); (try (refine gate_guard (by rfl) ?_; dsimp only)); at_builtin; refine Kd.R_append (Kd.int .u64) (w0 := w) w.heap.size rfl (.tmp 21) (.tmp 26) 38 51 (.int .u64 0) 8 rfl Try.underlying38 info51 rfl (by decide) (by omega) u4 x4_1 (rd l0 x5_1) [.int .u64 (rd l0 x5_1)] (fun _ => True) (fun _ => False) rfl rfl ?aP (fun _ hk => hk.elim) ?aF ?aO ?aB ?aS ?aL ?_; (case aP => exact rfl); (case aB => exact (by repeat (first | (with_reducible first | exact HB.out | apply below_alloc | apply pw_below_drewN | apply below_drew1) | exact HB.out))); (case aF => exact (fun _ _ => trivial)); (case aO => exact (by (with_reducible repeat (first | apply Kd.R_alloc | apply Kd.R_drewN | apply Kd.R_drew)); exact HO_4.out)); (case aS => exact (below_size (by repeat (first | (with_reducible first | exact HB.out | apply below_alloc | apply pw_below_drewN | apply below_drew1) | exact HB.out)))); (case aL => have := LMc8.out; omega); intro v490 w15 ho hb hg hat; rw [← Ny489.out] at ho; have n0_ := Aside0.mk (hb); have n1_ := Aside0.mk (ho); clear HB; clear HO_4; have HB := n0_; have HO491 := n1_; clear n0_ n1_; clear ho hb hg hat; have p492 : 0 ≤ (x5_1 : Int) := of_decide_eq_true (by first | (with_reducible assumption) | assumption); have q492 : x5_1 < (l0.length : Int) := of_decide_eq_true (by first | (with_reducible assumption) | assumption); obtain ⟨ad492, e492, hx492_0⟩ := Kd.at_int HR0.out x5_1 p492 q492; obtain rfl : ad488 = ad492 := (by injection e492); replace hx492_0 := (HB.out.cell (World.block_lt_of_cell? w _ hx492_0)).trans hx492_0; replace p492 := eq_true p492; replace q492 := eq_true q492; have p493 : 0 ≤ ((ji10) : Int) := of_decide_eq_true (by first | (with_reducible assumption) | assumption); have q493 : (ji10) < (l0.length : Int) := of_decide_eq_true (by first | (with_reducible assumption) | assumption); obtain ⟨ad493, e493, hx493_0⟩ := Kd.at_int HR0.out (ji10) p493 q493; obtain rfl : ad488 = ad493 := (by injection e493); replace hx493_0 := (HB.out.cell (World.block_lt_of_cell? w _ hx493_0)).trans hx493_0; replace p493 := eq_true p493; replace q493 := eq_true q493)))
                        go_roundg k1
                        case measure => have := HK1.out; omega
                        case rel => exact ⟨(wrap64 (x3_1 + 1)), (y489), (ji10), (by first | rfl | (simp; done) | (simp [*]; done)), (by first | rfl | (simp; done) | (simp only [← hji10] <;> (first | rfl | simp)) | (simp [*]; done)), H', ⟨by have := HK1.out; omega⟩, ⟨by (with_reducible repeat (first | apply Kd.R_alloc | apply Kd.R_drewN | apply Kd.R_drew)); exact HO491.out⟩, ⟨by repeat (first | (with_reducible first | exact HB.out | apply below_alloc | apply pw_below_drewN | apply below_drew1) | exact HB.out)⟩⟩
                    · rw [if_neg c12] at H
                      exact absurd H (by simp)
                  · rw [if_neg c11] at H
                    exact absurd H (by simp)
                · rw [if_neg c9] at H
                  have c9b0 : decide (0 < x5_1) = false := decide_eq_false c9
                  clear c9
                  have H' := Aside0.mk H
                  clear H
                  have p488 : 0 ≤ (x5_1 : Int) := of_decide_eq_true (by first | (with_reducible assumption) | assumption)
                  have q488 : x5_1 < (l0.length : Int) := of_decide_eq_true (by first | (with_reducible assumption) | assumption)
                  obtain ⟨ad488, e488, hx488_0⟩ := Kd.at_int HR0.out x5_1 p488 q488
                  cases e488
                  replace hx488_0 := (HB.out.cell (World.block_lt_of_cell? w _ hx488_0)).trans hx488_0
                  replace p488 := eq_true p488
                  replace q488 := eq_true q488
                  go_wp2_with (first | ((with_reducible refine gate_builtin (b := .append) (xs := #[.tmp 21, .tmp 26]) rfl ?_); (try (refine gate_guard (by rfl) ?_; dsimp only)); at_builtin; refine Kd.R_append (Kd.int .u64) (w0 := w) w.heap.size rfl (.tmp 21) (.tmp 26) 38 51 (.int .u64 0) 8 rfl Try.underlying38 info51 rfl (by decide) (by omega) u4 x4_1 (rd l0 x5_1) [.int .u64 (rd l0 x5_1)] (fun _ => True) (fun _ => False) rfl rfl ?aP (fun _ hk => hk.elim) ?aF ?aO ?aB ?aS ?aL ?_; (case aP => exact rfl); (case aB => exact (by repeat (first | (with_reducible first | exact HB.out | apply below_alloc | apply pw_below_drewN | apply below_drew1) | exact HB.out))); (case aF => exact (fun _ _ => trivial)); (case aO => exact (by (with_reducible repeat (first | apply Kd.R_alloc | apply Kd.R_drewN | apply Kd.R_drew)); exact HO_4.out)); (case aS => exact (below_size (by repeat (first | (with_reducible first | exact HB.out | apply below_alloc | apply pw_below_drewN | apply below_drew1) | exact HB.out)))); (case aL => have := LMc8.out; omega); intro v490 w16 ho hb hg hat; rw [← Ny489.out] at ho; have n0_ := Aside0.mk (hb); have n1_ := Aside0.mk (ho); clear HB; clear HO_4; have HB := n0_; have HO491 := n1_; clear n0_ n1_; clear ho hb hg hat))
                  repeat (go_quiet (first | ((with_reducible refine gate_builtin (b := .append) (xs := #[.tmp 21, .tmp 26]) rfl ?_); (try (refine gate_guard (by rfl) ?_; dsimp only)); at_builtin; refine Kd.R_append (Kd.int .u64) (w0 := w) w.heap.size rfl (.tmp 21) (.tmp 26) 38 51 (.int .u64 0) 8 rfl Try.underlying38 info51 rfl (by decide) (by omega) u4 x4_1 (rd l0 x5_1) [.int .u64 (rd l0 x5_1)] (fun _ => True) (fun _ => False) rfl rfl ?aP (fun _ hk => hk.elim) ?aF ?aO ?aB ?aS ?aL ?_; (case aP => exact rfl); (case aB => exact (by repeat (first | (with_reducible first | exact HB.out | apply below_alloc | apply pw_below_drewN | apply below_drew1) | exact HB.out))); (case aF => exact (fun _ _ => trivial)); (case aO => exact (by (with_reducible repeat (first | apply Kd.R_alloc | apply Kd.R_drewN | apply Kd.R_drew)); exact HO_4.out)); (case aS => exact (below_size (by repeat (first | (with_reducible first | exact HB.out | apply below_alloc | apply pw_below_drewN | apply below_drew1) | exact HB.out)))); (case aL => have := LMc8.out; omega); intro v490 w16 ho hb hg hat; rw [← Ny489.out] at ho; have n0_ := Aside0.mk (hb); have n1_ := Aside0.mk (ho); clear HB; clear HO_4; have HB := n0_; have HO491 := n1_; clear n0_ n1_; clear ho hb hg hat)); try go_wp2_with (first | ((with_reducible refine gate_builtin (b := .append) (xs := #[.tmp 21, .tmp 26]) rfl ?_); (try (refine gate_guard (by rfl) ?_; dsimp only)); at_builtin; refine Kd.R_append (Kd.int .u64) (w0 := w) w.heap.size rfl (.tmp 21) (.tmp 26) 38 51 (.int .u64 0) 8 rfl Try.underlying38 info51 rfl (by decide) (by omega) u4 x4_1 (rd l0 x5_1) [.int .u64 (rd l0 x5_1)] (fun _ => True) (fun _ => False) rfl rfl ?aP (fun _ hk => hk.elim) ?aF ?aO ?aB ?aS ?aL ?_; (case aP => exact rfl); (case aB => exact (by repeat (first | (with_reducible first | exact HB.out | apply below_alloc | apply pw_below_drewN | apply below_drew1) | exact HB.out))); (case aF => exact (fun _ _ => trivial)); (case aO => exact (by (with_reducible repeat (first | apply Kd.R_alloc | apply Kd.R_drewN | apply Kd.R_drew)); exact HO_4.out)); (case aS => exact (below_size (by repeat (first | (with_reducible first | exact HB.out | apply below_alloc | apply pw_below_drewN | apply below_drew1) | exact HB.out)))); (case aL => have := LMc8.out; omega); intro v490 w16 ho hb hg hat; rw [← Ny489.out] at ho; have n0_ := Aside0.mk (hb); have n1_ := Aside0.mk (ho); clear HB; clear HO_4; have HB := n0_; have HO491 := n1_; clear n0_ n1_; clear ho hb hg hat)))
                  go_roundg k1
                  case measure => have := HK1.out; omega
                  case rel => exact ⟨(x3_1), (y489), (wrap64 (x5_1 - 1)), (by first | rfl | (simp; done) | (simp [*]; done)), (by first | rfl | (simp; done) | (simp [*]; done)), H', ⟨by have := HK1.out; omega⟩, ⟨by (with_reducible repeat (first | apply Kd.R_alloc | apply Kd.R_drewN | apply Kd.R_drew)); exact HO491.out⟩, ⟨by repeat (first | (with_reducible first | exact HB.out | apply below_alloc | apply pw_below_drewN | apply below_drew1) | exact HB.out)⟩⟩
              · rw [if_neg c8] at H
                exact absurd H (by simp)
            · rw [if_neg c7] at H
              exact absurd H (by simp)
          · rw [if_neg c6] at H
            exact absurd H (by simp)
        · rw [if_neg c5] at H
          have c5b0 : decide (0 ≤ x5_1) = false := decide_eq_false c5
          clear c5
          replace H := Option.bind_eq_some_iff.mp H
          obtain ⟨t494, A170, H⟩ := H
          replace H : ((runs_Runs.f k1 x4_1).bind fun t497 => (if (l0.length : Int) = 0 then (if (t494.length : Int) = 0 then ((bonsailaw06_live.f k1).bind fun t500 => (some t500)) else (none)) else (if (t494.length : Int) = (wrap64 (x3_1 + 1)) then (bonsailaw06_RunsFew.j1 k1 l0 t494 t497 ((t497.length : Int) != (t494.length : Int))) else (bonsailaw06_RunsFew.j1 k1 l0 t494 t497 true)))) = some r := H
          have A17 := Aside0.mk A170
          clear A170
          replace H := Option.bind_eq_some_iff.mp H
          obtain ⟨t497, A180, H⟩ := H
          replace H : (if (l0.length : Int) = 0 then (if (t494.length : Int) = 0 then ((bonsailaw06_live.f k1).bind fun t500 => (some t500)) else (none)) else (if (t494.length : Int) = (wrap64 (x3_1 + 1)) then (bonsailaw06_RunsFew.j1 k1 l0 t494 t497 ((t497.length : Int) != (t494.length : Int))) else (bonsailaw06_RunsFew.j1 k1 l0 t494 t497 true))) = some r := H
          have A18 := Aside0.mk A180
          clear A180
          by_cases c19 : (l0.length : Int) = 0
          · rw [if_pos c19] at H
            have c19b0 : ((l0.length : Int) == 0) = true := beq_iff_eq.mpr c19
            have c19b1 : ((l0.length : Int) != 0) = false := bne_eq_false_iff_eq.mpr c19
            clear c19
            by_cases c20 : (t494.length : Int) = 0
            · rw [if_pos c20] at H
              have c20b0 : ((t494.length : Int) == 0) = true := beq_iff_eq.mpr c20
              have c20b1 : ((t494.length : Int) != 0) = false := bne_eq_false_iff_eq.mpr c20
              clear c20
              replace H := Option.bind_eq_some_iff.mp H
              obtain ⟨t500, A210, H⟩ := H
              replace H : (some t500) = some r := H
              have A21 := Aside0.mk A210
              clear A210
              obtain rfl := Option.some.inj H
              go_wp2_with (first | (go_at_call 42; (with_reducible refine (runs_Runs.calls k1 _ _ l0 t494 _ ?side1 ?side2 A17.out).mono ?_); (case side1 => repeat (first | exact (Kd.C_below HR0.out HB.out) | (with_reducible refine Kd.C_alloc ?_ _) | (with_reducible refine Kd.C_drewN ?_ _) | (with_reducible refine Kd.C_drew ?_))); (case side2 => exact HC0.out); rintro e w22 ⟨v495, rfl, ho0, hb⟩; have n0_ := Aside0.mk (Kd.R_below (by (with_reducible repeat (first | apply Kd.R_alloc | apply Kd.R_drewN | apply Kd.R_drew)); exact HO_4.out) hb); have n1_ := Aside0.mk (Kd.R_lower ho0 (below_size (by repeat (first | (with_reducible first | exact HB.out | apply below_alloc | apply pw_below_drewN | apply below_drew1) | exact HB.out)))); have n2_ := Aside0.mk (below_step (by repeat (first | (with_reducible first | exact HB.out | apply below_alloc | apply pw_below_drewN | apply below_drew1) | exact HB.out)) hb); clear HO_4; clear HB; have HO_4 := n0_; have HO496 := n1_; have HB := n2_; clear n0_ n1_ n2_; (try clear hb); (try clear hb2); (try clear hk); (try clear hi); (try clear ho0); obtain ⟨Ao23, co23, eo23⟩ := Kd.R_slice HO_4.out; subst eo23) | (go_at_call 42; (with_reducible refine (runs_Runs.calls k1 _ _ x4_1 t497 _ ?side1 ?side2 A18.out).mono ?_); (case side1 => repeat (first | exact (Kd.R_reads' HO_4.out).2.2 | (with_reducible refine Kd.C_alloc ?_ _) | (with_reducible refine Kd.C_drewN ?_ _) | (with_reducible refine Kd.C_drew ?_))); (case side2 => exact (Kd.R_reads' HO_4.out).2.1); rintro e w24 ⟨v498, rfl, ho0, hb⟩; have n0_ := Aside0.mk (Kd.R_below (by (with_reducible repeat (first | apply Kd.R_alloc | apply Kd.R_drewN | apply Kd.R_drew)); exact HO_4.out) hb); have n1_ := Aside0.mk (Kd.R_elder' (by (with_reducible repeat (first | apply Kd.R_alloc | apply Kd.R_drewN | apply Kd.R_drew)); exact HO496.out) (Kd.R_base ho0) hb); have n2_ := Aside0.mk (Kd.R_lower (Kd.R_new' ho0 (Kd.R_lt (by (with_reducible repeat (first | apply Kd.R_alloc | apply Kd.R_drewN | apply Kd.R_drew)); exact HO496.out))) (below_size (by repeat (first | (with_reducible first | exact HB.out | apply below_alloc | apply pw_below_drewN | apply below_drew1) | exact HB.out)))); have n3_ := Aside0.mk (below_step (by repeat (first | (with_reducible first | exact HB.out | apply below_alloc | apply pw_below_drewN | apply below_drew1) | exact HB.out)) hb); clear HO_4; clear HO496; clear HB; have HO_4 := n0_; have HO496 := n1_; have HO499 := n2_; have HB := n3_; clear n0_ n1_ n2_ n3_; (try clear hb); (try clear hb2); (try clear hk); (try clear hi); (try clear ho0); obtain ⟨Ao25, co25, eo25⟩ := Kd.R_slice HO496.out; subst eo25) | (go_at_call 38; (with_reducible refine (bonsailaw06_live.calls k1  t500 _ A21.out).mono ?_); rintro e w26 ⟨rfl, hb⟩; have n0_ := Aside0.mk (Kd.R_below (by (with_reducible repeat (first | apply Kd.R_alloc | apply Kd.R_drewN | apply Kd.R_drew)); exact HO_4.out) hb); have n1_ := Aside0.mk (Kd.R_below (by (with_reducible repeat (first | apply Kd.R_alloc | apply Kd.R_drewN | apply Kd.R_drew)); exact HO496.out) hb); have n2_ := Aside0.mk (Kd.R_below (by (with_reducible repeat (first | apply Kd.R_alloc | apply Kd.R_drewN | apply Kd.R_drew)); exact HO499.out) hb); have n3_ := Aside0.mk (below_step (by repeat (first | (with_reducible first | exact HB.out | apply below_alloc | apply pw_below_drewN | apply below_drew1) | exact HB.out)) hb); clear HO_4; clear HO496; clear HO499; clear HB; have HO_4 := n0_; have HO496 := n1_; have HO499 := n2_; have HB := n3_; clear n0_ n1_ n2_ n3_; (try clear hb); (try clear hb2); (try clear hk); (try clear hi)))
              repeat (go_quiet (first | (go_at_call 42; (with_reducible refine (runs_Runs.calls k1 _ _ l0 t494 _ ?side1 ?side2 A17.out).mono ?_); (case side1 => repeat (first | exact (Kd.C_below HR0.out HB.out) | (with_reducible refine Kd.C_alloc ?_ _) | (with_reducible refine Kd.C_drewN ?_ _) | (with_reducible refine Kd.C_drew ?_))); (case side2 => exact HC0.out); rintro e w22 ⟨v495, rfl, ho0, hb⟩; have n0_ := Aside0.mk (Kd.R_below (by (with_reducible repeat (first | apply Kd.R_alloc | apply Kd.R_drewN | apply Kd.R_drew)); exact HO_4.out) hb); have n1_ := Aside0.mk (Kd.R_lower ho0 (below_size (by repeat (first | (with_reducible first | exact HB.out | apply below_alloc | apply pw_below_drewN | apply below_drew1) | exact HB.out)))); have n2_ := Aside0.mk (below_step (by repeat (first | (with_reducible first | exact HB.out | apply below_alloc | apply pw_below_drewN | apply below_drew1) | exact HB.out)) hb); clear HO_4; clear HB; have HO_4 := n0_; have HO496 := n1_; have HB := n2_; clear n0_ n1_ n2_; (try clear hb); (try clear hb2); (try clear hk); (try clear hi); (try clear ho0); obtain ⟨Ao23, co23, eo23⟩ := Kd.R_slice HO_4.out; subst eo23) | (go_at_call 42; (with_reducible refine (runs_Runs.calls k1 _ _ x4_1 t497 _ ?side1 ?side2 A18.out).mono ?_); (case side1 => repeat (first | exact (Kd.R_reads' HO_4.out).2.2 | (with_reducible refine Kd.C_alloc ?_ _) | (with_reducible refine Kd.C_drewN ?_ _) | (with_reducible refine Kd.C_drew ?_))); (case side2 => exact (Kd.R_reads' HO_4.out).2.1); rintro e w24 ⟨v498, rfl, ho0, hb⟩; have n0_ := Aside0.mk (Kd.R_below (by (with_reducible repeat (first | apply Kd.R_alloc | apply Kd.R_drewN | apply Kd.R_drew)); exact HO_4.out) hb); have n1_ := Aside0.mk (Kd.R_elder' (by (with_reducible repeat (first | apply Kd.R_alloc | apply Kd.R_drewN | apply Kd.R_drew)); exact HO496.out) (Kd.R_base ho0) hb); have n2_ := Aside0.mk (Kd.R_lower (Kd.R_new' ho0 (Kd.R_lt (by (with_reducible repeat (first | apply Kd.R_alloc | apply Kd.R_drewN | apply Kd.R_drew)); exact HO496.out))) (below_size (by repeat (first | (with_reducible first | exact HB.out | apply below_alloc | apply pw_below_drewN | apply below_drew1) | exact HB.out)))); have n3_ := Aside0.mk (below_step (by repeat (first | (with_reducible first | exact HB.out | apply below_alloc | apply pw_below_drewN | apply below_drew1) | exact HB.out)) hb); clear HO_4; clear HO496; clear HB; have HO_4 := n0_; have HO496 := n1_; have HO499 := n2_; have HB := n3_; clear n0_ n1_ n2_ n3_; (try clear hb); (try clear hb2); (try clear hk); (try clear hi); (try clear ho0); obtain ⟨Ao25, co25, eo25⟩ := Kd.R_slice HO496.out; subst eo25) | (go_at_call 38; (with_reducible refine (bonsailaw06_live.calls k1  t500 _ A21.out).mono ?_); rintro e w26 ⟨rfl, hb⟩; have n0_ := Aside0.mk (Kd.R_below (by (with_reducible repeat (first | apply Kd.R_alloc | apply Kd.R_drewN | apply Kd.R_drew)); exact HO_4.out) hb); have n1_ := Aside0.mk (Kd.R_below (by (with_reducible repeat (first | apply Kd.R_alloc | apply Kd.R_drewN | apply Kd.R_drew)); exact HO496.out) hb); have n2_ := Aside0.mk (Kd.R_below (by (with_reducible repeat (first | apply Kd.R_alloc | apply Kd.R_drewN | apply Kd.R_drew)); exact HO499.out) hb); have n3_ := Aside0.mk (below_step (by repeat (first | (with_reducible first | exact HB.out | apply below_alloc | apply pw_below_drewN | apply below_drew1) | exact HB.out)) hb); clear HO_4; clear HO496; clear HO499; clear HB; have HO_4 := n0_; have HO496 := n1_; have HO499 := n2_; have HB := n3_; clear n0_ n1_ n2_ n3_; (try clear hb); (try clear hb2); (try clear hk); (try clear hi))); try go_wp2_with (first | (go_at_call 42; (with_reducible refine (runs_Runs.calls k1 _ _ l0 t494 _ ?side1 ?side2 A17.out).mono ?_); (case side1 => repeat (first | exact (Kd.C_below HR0.out HB.out) | (with_reducible refine Kd.C_alloc ?_ _) | (with_reducible refine Kd.C_drewN ?_ _) | (with_reducible refine Kd.C_drew ?_))); (case side2 => exact HC0.out); rintro e w22 ⟨v495, rfl, ho0, hb⟩; have n0_ := Aside0.mk (Kd.R_below (by (with_reducible repeat (first | apply Kd.R_alloc | apply Kd.R_drewN | apply Kd.R_drew)); exact HO_4.out) hb); have n1_ := Aside0.mk (Kd.R_lower ho0 (below_size (by repeat (first | (with_reducible first | exact HB.out | apply below_alloc | apply pw_below_drewN | apply below_drew1) | exact HB.out)))); have n2_ := Aside0.mk (below_step (by repeat (first | (with_reducible first | exact HB.out | apply below_alloc | apply pw_below_drewN | apply below_drew1) | exact HB.out)) hb); clear HO_4; clear HB; have HO_4 := n0_; have HO496 := n1_; have HB := n2_; clear n0_ n1_ n2_; (try clear hb); (try clear hb2); (try clear hk); (try clear hi); (try clear ho0); obtain ⟨Ao23, co23, eo23⟩ := Kd.R_slice HO_4.out; subst eo23) | (go_at_call 42; (with_reducible refine (runs_Runs.calls k1 _ _ x4_1 t497 _ ?side1 ?side2 A18.out).mono ?_); (case side1 => repeat (first | exact (Kd.R_reads' HO_4.out).2.2 | (with_reducible refine Kd.C_alloc ?_ _) | (with_reducible refine Kd.C_drewN ?_ _) | (with_reducible refine Kd.C_drew ?_))); (case side2 => exact (Kd.R_reads' HO_4.out).2.1); rintro e w24 ⟨v498, rfl, ho0, hb⟩; have n0_ := Aside0.mk (Kd.R_below (by (with_reducible repeat (first | apply Kd.R_alloc | apply Kd.R_drewN | apply Kd.R_drew)); exact HO_4.out) hb); have n1_ := Aside0.mk (Kd.R_elder' (by (with_reducible repeat (first | apply Kd.R_alloc | apply Kd.R_drewN | apply Kd.R_drew)); exact HO496.out) (Kd.R_base ho0) hb); have n2_ := Aside0.mk (Kd.R_lower (Kd.R_new' ho0 (Kd.R_lt (by (with_reducible repeat (first | apply Kd.R_alloc | apply Kd.R_drewN | apply Kd.R_drew)); exact HO496.out))) (below_size (by repeat (first | (with_reducible first | exact HB.out | apply below_alloc | apply pw_below_drewN | apply below_drew1) | exact HB.out)))); have n3_ := Aside0.mk (below_step (by repeat (first | (with_reducible first | exact HB.out | apply below_alloc | apply pw_below_drewN | apply below_drew1) | exact HB.out)) hb); clear HO_4; clear HO496; clear HB; have HO_4 := n0_; have HO496 := n1_; have HO499 := n2_; have HB := n3_; clear n0_ n1_ n2_ n3_; (try clear hb); (try clear hb2); (try clear hk); (try clear hi); (try clear ho0); obtain ⟨Ao25, co25, eo25⟩ := Kd.R_slice HO496.out; subst eo25) | (go_at_call 38; (with_reducible refine (bonsailaw06_live.calls k1  t500 _ A21.out).mono ?_); rintro e w26 ⟨rfl, hb⟩; have n0_ := Aside0.mk (Kd.R_below (by (with_reducible repeat (first | apply Kd.R_alloc | apply Kd.R_drewN | apply Kd.R_drew)); exact HO_4.out) hb); have n1_ := Aside0.mk (Kd.R_below (by (with_reducible repeat (first | apply Kd.R_alloc | apply Kd.R_drewN | apply Kd.R_drew)); exact HO496.out) hb); have n2_ := Aside0.mk (Kd.R_below (by (with_reducible repeat (first | apply Kd.R_alloc | apply Kd.R_drewN | apply Kd.R_drew)); exact HO499.out) hb); have n3_ := Aside0.mk (below_step (by repeat (first | (with_reducible first | exact HB.out | apply below_alloc | apply pw_below_drewN | apply below_drew1) | exact HB.out)) hb); clear HO_4; clear HO496; clear HO499; clear HB; have HO_4 := n0_; have HO496 := n1_; have HO499 := n2_; have HB := n3_; clear n0_ n1_ n2_ n3_; (try clear hb); (try clear hb2); (try clear hk); (try clear hi))))
              go_ret
              exact ⟨by first | rfl | (simp [errW_none, errW_some] <;> rfl) | (simp [*, errW_none, errW_some] <;> rfl), by repeat (first | (with_reducible first | exact HB.out | apply below_alloc | apply pw_below_drewN | apply below_drew1) | exact HB.out)⟩
            · rw [if_neg c20] at H
              exact absurd H (by simp)
          · rw [if_neg c19] at H
            have c19b0 : ((l0.length : Int) == 0) = false := beq_eq_false_iff_ne.mpr c19
            have c19b1 : ((l0.length : Int) != 0) = true := bne_iff_ne.mpr c19
            have c19b2 : ¬ (l0 = []) := fun h_ => c19 (by rw [h_]; rfl)
            have HC27 := Aside0.mk H
            clear H
            go_upto_region 15 with (first | (go_at_call 42; (with_reducible refine (runs_Runs.calls k1 _ _ l0 t494 _ ?side1 ?side2 A17.out).mono ?_); (case side1 => repeat (first | exact (Kd.C_below HR0.out HB.out) | (with_reducible refine Kd.C_alloc ?_ _) | (with_reducible refine Kd.C_drewN ?_ _) | (with_reducible refine Kd.C_drew ?_))); (case side2 => exact HC0.out); rintro e w28 ⟨v495, rfl, ho0, hb⟩; have n0_ := Aside0.mk (Kd.R_below (by (with_reducible repeat (first | apply Kd.R_alloc | apply Kd.R_drewN | apply Kd.R_drew)); exact HO_4.out) hb); have n1_ := Aside0.mk (Kd.R_lower ho0 (below_size (by repeat (first | (with_reducible first | exact HB.out | apply below_alloc | apply pw_below_drewN | apply below_drew1) | exact HB.out)))); have n2_ := Aside0.mk (below_step (by repeat (first | (with_reducible first | exact HB.out | apply below_alloc | apply pw_below_drewN | apply below_drew1) | exact HB.out)) hb); clear HO_4; clear HB; have HO_4 := n0_; have HO496 := n1_; have HB := n2_; clear n0_ n1_ n2_; (try clear hb); (try clear hb2); (try clear hk); (try clear hi); (try clear ho0); obtain ⟨Ao29, co29, eo29⟩ := Kd.R_slice HO_4.out; subst eo29) | (go_at_call 42; (with_reducible refine (runs_Runs.calls k1 _ _ x4_1 t497 _ ?side1 ?side2 A18.out).mono ?_); (case side1 => repeat (first | exact (Kd.R_reads' HO_4.out).2.2 | (with_reducible refine Kd.C_alloc ?_ _) | (with_reducible refine Kd.C_drewN ?_ _) | (with_reducible refine Kd.C_drew ?_))); (case side2 => exact (Kd.R_reads' HO_4.out).2.1); rintro e w30 ⟨v498, rfl, ho0, hb⟩; have n0_ := Aside0.mk (Kd.R_below (by (with_reducible repeat (first | apply Kd.R_alloc | apply Kd.R_drewN | apply Kd.R_drew)); exact HO_4.out) hb); have n1_ := Aside0.mk (Kd.R_elder' (by (with_reducible repeat (first | apply Kd.R_alloc | apply Kd.R_drewN | apply Kd.R_drew)); exact HO496.out) (Kd.R_base ho0) hb); have n2_ := Aside0.mk (Kd.R_lower (Kd.R_new' ho0 (Kd.R_lt (by (with_reducible repeat (first | apply Kd.R_alloc | apply Kd.R_drewN | apply Kd.R_drew)); exact HO496.out))) (below_size (by repeat (first | (with_reducible first | exact HB.out | apply below_alloc | apply pw_below_drewN | apply below_drew1) | exact HB.out)))); have n3_ := Aside0.mk (below_step (by repeat (first | (with_reducible first | exact HB.out | apply below_alloc | apply pw_below_drewN | apply below_drew1) | exact HB.out)) hb); clear HO_4; clear HO496; clear HB; have HO_4 := n0_; have HO496 := n1_; have HO499 := n2_; have HB := n3_; clear n0_ n1_ n2_ n3_; (try clear hb); (try clear hb2); (try clear hk); (try clear hi); (try clear ho0)))
            repeat (go_quiet (first | (go_at_call 42; (with_reducible refine (runs_Runs.calls k1 _ _ l0 t494 _ ?side1 ?side2 A17.out).mono ?_); (case side1 => repeat (first | exact (Kd.C_below HR0.out HB.out) | (with_reducible refine Kd.C_alloc ?_ _) | (with_reducible refine Kd.C_drewN ?_ _) | (with_reducible refine Kd.C_drew ?_))); (case side2 => exact HC0.out); rintro e w28 ⟨v495, rfl, ho0, hb⟩; have n0_ := Aside0.mk (Kd.R_below (by (with_reducible repeat (first | apply Kd.R_alloc | apply Kd.R_drewN | apply Kd.R_drew)); exact HO_4.out) hb); have n1_ := Aside0.mk (Kd.R_lower ho0 (below_size (by repeat (first | (with_reducible first | exact HB.out | apply below_alloc | apply pw_below_drewN | apply below_drew1) | exact HB.out)))); have n2_ := Aside0.mk (below_step (by repeat (first | (with_reducible first | exact HB.out | apply below_alloc | apply pw_below_drewN | apply below_drew1) | exact HB.out)) hb); clear HO_4; clear HB; have HO_4 := n0_; have HO496 := n1_; have HB := n2_; clear n0_ n1_ n2_; (try clear hb); (try clear hb2); (try clear hk); (try clear hi); (try clear ho0); obtain ⟨Ao29, co29, eo29⟩ := Kd.R_slice HO_4.out; subst eo29) | (go_at_call 42; (with_reducible refine (runs_Runs.calls k1 _ _ x4_1 t497 _ ?side1 ?side2 A18.out).mono ?_); (case side1 => repeat (first | exact (Kd.R_reads' HO_4.out).2.2 | (with_reducible refine Kd.C_alloc ?_ _) | (with_reducible refine Kd.C_drewN ?_ _) | (with_reducible refine Kd.C_drew ?_))); (case side2 => exact (Kd.R_reads' HO_4.out).2.1); rintro e w30 ⟨v498, rfl, ho0, hb⟩; have n0_ := Aside0.mk (Kd.R_below (by (with_reducible repeat (first | apply Kd.R_alloc | apply Kd.R_drewN | apply Kd.R_drew)); exact HO_4.out) hb); have n1_ := Aside0.mk (Kd.R_elder' (by (with_reducible repeat (first | apply Kd.R_alloc | apply Kd.R_drewN | apply Kd.R_drew)); exact HO496.out) (Kd.R_base ho0) hb); have n2_ := Aside0.mk (Kd.R_lower (Kd.R_new' ho0 (Kd.R_lt (by (with_reducible repeat (first | apply Kd.R_alloc | apply Kd.R_drewN | apply Kd.R_drew)); exact HO496.out))) (below_size (by repeat (first | (with_reducible first | exact HB.out | apply below_alloc | apply pw_below_drewN | apply below_drew1) | exact HB.out)))); have n3_ := Aside0.mk (below_step (by repeat (first | (with_reducible first | exact HB.out | apply below_alloc | apply pw_below_drewN | apply below_drew1) | exact HB.out)) hb); clear HO_4; clear HO496; clear HB; have HO_4 := n0_; have HO496 := n1_; have HO499 := n2_; have HB := n3_; clear n0_ n1_ n2_ n3_; (try clear hb); (try clear hb2); (try clear hk); (try clear hi); (try clear ho0))); go_upto_region 15 with (first | (go_at_call 42; (with_reducible refine (runs_Runs.calls k1 _ _ l0 t494 _ ?side1 ?side2 A17.out).mono ?_); (case side1 => repeat (first | exact (Kd.C_below HR0.out HB.out) | (with_reducible refine Kd.C_alloc ?_ _) | (with_reducible refine Kd.C_drewN ?_ _) | (with_reducible refine Kd.C_drew ?_))); (case side2 => exact HC0.out); rintro e w28 ⟨v495, rfl, ho0, hb⟩; have n0_ := Aside0.mk (Kd.R_below (by (with_reducible repeat (first | apply Kd.R_alloc | apply Kd.R_drewN | apply Kd.R_drew)); exact HO_4.out) hb); have n1_ := Aside0.mk (Kd.R_lower ho0 (below_size (by repeat (first | (with_reducible first | exact HB.out | apply below_alloc | apply pw_below_drewN | apply below_drew1) | exact HB.out)))); have n2_ := Aside0.mk (below_step (by repeat (first | (with_reducible first | exact HB.out | apply below_alloc | apply pw_below_drewN | apply below_drew1) | exact HB.out)) hb); clear HO_4; clear HB; have HO_4 := n0_; have HO496 := n1_; have HB := n2_; clear n0_ n1_ n2_; (try clear hb); (try clear hb2); (try clear hk); (try clear hi); (try clear ho0); obtain ⟨Ao29, co29, eo29⟩ := Kd.R_slice HO_4.out; subst eo29) | (go_at_call 42; (with_reducible refine (runs_Runs.calls k1 _ _ x4_1 t497 _ ?side1 ?side2 A18.out).mono ?_); (case side1 => repeat (first | exact (Kd.R_reads' HO_4.out).2.2 | (with_reducible refine Kd.C_alloc ?_ _) | (with_reducible refine Kd.C_drewN ?_ _) | (with_reducible refine Kd.C_drew ?_))); (case side2 => exact (Kd.R_reads' HO_4.out).2.1); rintro e w30 ⟨v498, rfl, ho0, hb⟩; have n0_ := Aside0.mk (Kd.R_below (by (with_reducible repeat (first | apply Kd.R_alloc | apply Kd.R_drewN | apply Kd.R_drew)); exact HO_4.out) hb); have n1_ := Aside0.mk (Kd.R_elder' (by (with_reducible repeat (first | apply Kd.R_alloc | apply Kd.R_drewN | apply Kd.R_drew)); exact HO496.out) (Kd.R_base ho0) hb); have n2_ := Aside0.mk (Kd.R_lower (Kd.R_new' ho0 (Kd.R_lt (by (with_reducible repeat (first | apply Kd.R_alloc | apply Kd.R_drewN | apply Kd.R_drew)); exact HO496.out))) (below_size (by repeat (first | (with_reducible first | exact HB.out | apply below_alloc | apply pw_below_drewN | apply below_drew1) | exact HB.out)))); have n3_ := Aside0.mk (below_step (by repeat (first | (with_reducible first | exact HB.out | apply below_alloc | apply pw_below_drewN | apply below_drew1) | exact HB.out)) hb); clear HO_4; clear HO496; clear HB; have HO_4 := n0_; have HO496 := n1_; have HO499 := n2_; have HB := n3_; clear n0_ n1_ n2_ n3_; (try clear hb); (try clear hb2); (try clear hk); (try clear hi); (try clear ho0))))
            (try simp only [Act.put, List.setIfInBounds_toArray, List.set_cons_zero, List.set_cons_succ])
            go_cut [68] (fun v68 wc => ∃ (kq : Nat) (x68_26 : Bool), v68 = .bool x68_26 ∧ Aside0 (bonsailaw06_RunsFew.j1 kq l0 t494 t497 x68_26 = some r) ∧ Aside0 (kq ≤ k1) ∧ Aside0 (Kd.R k53 53 wc w.heap.size (fun k_ => some k_ ≠ (v498 : Value).ownBlock) v495 t494) ∧ Aside0 (Kd.R k53 53 wc w.heap.size (fun k_ => some k_ ≠ (v495 : Value).ownBlock) v498 t497) ∧ Aside0 (Below w.heap.size w wc))
            case first =>
              have H := HC27.out
              clear HC27
              by_cases c31 : (t494.length : Int) = (wrap64 (x3_1 + 1))
              · rw [if_pos c31] at H
                have c31b0 : ((t494.length : Int) == (wrap64 (x3_1 + 1))) = true := beq_iff_eq.mpr c31
                have c31b1 : ((t494.length : Int) != (wrap64 (x3_1 + 1))) = false := bne_eq_false_iff_eq.mpr c31
                clear c31
                (first | rw [c31b0] | (simp only [i64_w, i32_w]; rw [c31b0]) | skip)
                have H' := Aside0.mk H
                clear H
                obtain ⟨Ao32, co32, eo32⟩ := Kd.R_slice HO496.out
                subst eo32
                obtain ⟨Ao33, co33, eo33⟩ := Kd.R_slice HO499.out
                subst eo33
                go_wp2
                repeat (go_quiet (fail); try go_wp2)
                go_meet
                case rel => exact ⟨_, (((t497.length : Int) != (t494.length : Int))), (by first | rfl | (simp; done) | (simp [*]; done)), H', ⟨by have := HK1.out; first | omega | exact Nat.le_refl _⟩, ⟨by (with_reducible repeat (first | apply Kd.R_alloc | apply Kd.R_drewN | apply Kd.R_drew)); exact Kd.R_mono HO496.out (fun _ hk => hk.2)⟩, ⟨by (with_reducible repeat (first | apply Kd.R_alloc | apply Kd.R_drewN | apply Kd.R_drew)); exact Kd.R_mono HO499.out (fun _ hk => hk.2)⟩, ⟨by repeat (first | (with_reducible first | exact HB.out | apply below_alloc | apply pw_below_drewN | apply below_drew1) | exact HB.out)⟩⟩
              · rw [if_neg c31] at H
                have c31b0 : ((t494.length : Int) == (wrap64 (x3_1 + 1))) = false := beq_eq_false_iff_ne.mpr c31
                have c31b1 : ((t494.length : Int) != (wrap64 (x3_1 + 1))) = true := bne_iff_ne.mpr c31
                (first | rw [c31b0] | (simp only [i64_w, i32_w]; rw [c31b0]) | skip)
                have H' := Aside0.mk H
                clear H
                obtain ⟨Ao34, co34, eo34⟩ := Kd.R_slice HO496.out
                subst eo34
                go_wp2
                repeat (go_quiet (fail); try go_wp2)
                go_meet
                case rel => exact ⟨_, (true), (by first | rfl | (simp; done) | (simp [*]; done)), H', ⟨by have := HK1.out; first | omega | exact Nat.le_refl _⟩, ⟨by (with_reducible repeat (first | apply Kd.R_alloc | apply Kd.R_drewN | apply Kd.R_drew)); exact Kd.R_mono HO496.out (fun _ hk => hk.2)⟩, ⟨by (with_reducible repeat (first | apply Kd.R_alloc | apply Kd.R_drewN | apply Kd.R_drew)); exact Kd.R_mono HO499.out (fun _ hk => hk.2)⟩, ⟨by repeat (first | (with_reducible first | exact HB.out | apply below_alloc | apply pw_below_drewN | apply below_drew1) | exact HB.out)⟩⟩
            case rest =>
              clear HC27
              try clear c1
              try clear c2
              try clear c2b0
              try clear c2b1
              try clear p2
              try clear c3
              try clear p4
              try clear q4
              try clear hx4
              try clear c5
              try clear c5b0
              try clear c6
              try clear c6b0
              try clear p6
              try clear c7
              try clear c7b0
              try clear c8
              try clear c9
              try clear c9b0
              try clear c11
              try clear c11b0
              try clear c12
              try clear c12b0
              try clear c13
              try clear c13b0
              try clear c13b1
              try clear c19
              try clear c19b0
              try clear c19b1
              try clear c19b2
              try clear c20
              try clear c20b0
              try clear c20b1
              try clear c31
              try clear c31b0
              try clear c31b1
              try clear hx488_0
              try clear hx492_0
              try clear hx493_0
              try clear p2
              try clear p488
              try clear p492
              try clear p493
              try clear q488
              try clear q492
              try clear q493
              obtain ⟨kq, x68_26, rfl, HA, HJ26, HO_6, HO_7, HB⟩ := hcut
              cases kq with
              | zero => exact absurd HA.out (by simp [bonsailaw06_RunsFew.j1])
              | succ kj26 =>
                have H := HA.out
                clear HA
                simp only [bonsailaw06_RunsFew.j1] at H
                by_cases c35 : x68_26 = true
                · subst c35
                  have H1 : (none) = some r := by rw [if_pos rfl] at H; exact H
                  clear H
                  have H := H1
                  clear H1
                  exact absurd H (by simp)
                · replace c35 := Bool.eq_false_iff.mpr c35
                  subst c35
                  have H1 : (bonsailaw06_RunsFew.l1 kj26 l0 t494 t497 0 0) = some r := by rw [if_neg (show ¬ (false = true) by decide)] at H; exact H
                  clear H
                  have H := H1
                  clear H1
                  have H' := Aside0.mk H
                  clear H
                  go_wp2
                  repeat (go_quiet (fail); try go_wp2)
                  go_loopg [8, 9] kj26 (fun kq v8 v9 w' => ∃ (x8_3 : Int) (x9_3 : Int), v8 = .int .i64 x8_3 ∧ v9 = .int .i64 x9_3 ∧ Aside0 (bonsailaw06_RunsFew.l1 kq l0 t494 t497 x8_3 x9_3 = some r) ∧ Aside0 (kq ≤ kj26) ∧ Aside0 (Kd.R k53 53 w' w.heap.size (fun k_ => some k_ ≠ (v498 : Value).ownBlock) v495 t494) ∧ Aside0 (Kd.R k53 53 w' w.heap.size (fun k_ => some k_ ≠ (v495 : Value).ownBlock) v498 t497) ∧ Aside0 (Below w.heap.size w w'))
                  case atStart => exact ⟨(0), (0), (by first | rfl | (simp; done) | (simp [*]; done)), (by first | rfl | (simp; done) | (simp [*]; done)), H', ⟨Nat.le_refl _⟩, ⟨by (with_reducible repeat (first | apply Kd.R_alloc | apply Kd.R_drewN | apply Kd.R_drew)); exact HO_6.out⟩, ⟨by (with_reducible repeat (first | apply Kd.R_alloc | apply Kd.R_drewN | apply Kd.R_drew)); exact HO_7.out⟩, ⟨by repeat (first | (with_reducible first | exact HB.out | apply below_alloc | apply pw_below_drewN | apply below_drew1) | exact HB.out)⟩⟩
                  case round =>
                    clear H'
                    try clear c1
                    try clear c2
                    try clear c2b0
                    try clear c2b1
                    try clear p2
                    try clear c3
                    try clear p4
                    try clear q4
                    try clear hx4
                    try clear c5
                    try clear c5b0
                    try clear c6
                    try clear c6b0
                    try clear p6
                    try clear c7
                    try clear c7b0
                    try clear c8
                    try clear c9
                    try clear c9b0
                    try clear c11
                    try clear c11b0
                    try clear c12
                    try clear c12b0
                    try clear c13
                    try clear c13b0
                    try clear c13b1
                    try clear c19
                    try clear c19b0
                    try clear c19b1
                    try clear c19b2
                    try clear c20
                    try clear c20b0
                    try clear c20b1
                    try clear c31
                    try clear c31b0
                    try clear c31b1
                    try clear c35
                    try clear hx488_0
                    try clear hx492_0
                    try clear hx493_0
                    try clear p2
                    try clear p4
                    try clear p488
                    try clear p492
                    try clear p493
                    try clear p6
                    try clear q4
                    try clear q488
                    try clear q492
                    try clear q493
                    obtain ⟨x8_3, x9_3, rfl, rfl, HA, HK3, HO_6, HO_7, HB⟩ := hrel
                    cases gk with
                    | zero => exact absurd HA.out (by simp [bonsailaw06_RunsFew.l1])
                    | succ k3 =>
                      have H := HA.out
                      clear HA
                      simp only [bonsailaw06_RunsFew.l1] at H
                      by_cases c36 : x9_3 < (t494.length : Int)
                      · rw [if_pos c36] at H
                        have c36b0 : decide (x9_3 < (t494.length : Int)) = true := decide_eq_true c36
                        clear c36
                        by_cases c37 : 0 ≤ x9_3
                        · rw [if_pos c37] at H
                          have c37b0 : decide (0 ≤ x9_3) = true := decide_eq_true c37
                          clear c37
                          obtain ⟨ji38, hji38⟩ : ∃ j_ : Int, (wrap64 ((wrap64 ((t494.length : Int) - 1)) - x9_3)) = j_ := ⟨_, rfl⟩
                          replace H : (if 0 ≤ (ji38) then (if (ji38) < (t497.length : Int) then (if (!(((rd_T53 t494 x9_3).f0) == ((rd_T53 t497 (ji38)).f0)) || (!(((rd_T53 t494 x9_3).f1) == ((rd_T53 t497 (ji38)).f1)))) = true then (none) else (bonsailaw06_RunsFew.l1 k3 l0 t494 t497 (wrap64 (x8_3 + ((rd_T53 t494 x9_3).f1))) (wrap64 (x9_3 + 1)))) else (none)) else (none)) = some r := by first | (rw [hji38] at H; exact H) | (simp only [hji38] at H ⊢; exact H)
                          have hji38w : (IntKind.i64.wrap ((wrap64 ((t494.length : Int) - 1)) - x9_3)) = ji38 := (i64_w _).trans hji38
                          by_cases c39 : 0 ≤ (ji38)
                          · rw [if_pos c39] at H
                            have c39b0 : decide (0 ≤ (ji38)) = true := decide_eq_true c39
                            clear c39
                            by_cases c40 : (ji38) < (t497.length : Int)
                            · rw [if_pos c40] at H
                              have c40b0 : decide ((ji38) < (t497.length : Int)) = true := decide_eq_true c40
                              clear c40
                              by_cases c41 : (!(((rd_T53 t494 x9_3).f0) == ((rd_T53 t497 (ji38)).f0)) || (!(((rd_T53 t494 x9_3).f1) == ((rd_T53 t497 (ji38)).f1)))) = true
                              · rw [if_pos c41] at H
                                exact absurd H (by simp)
                              · rw [if_neg c41] at H
                                have c41b0 : (!(((rd_T53 t494 x9_3).f0) == ((rd_T53 t497 (ji38)).f0)) || (!(((rd_T53 t494 x9_3).f1) == ((rd_T53 t497 (ji38)).f1)))) = false := by simpa using c41
                                clear c41
                                have H' := Aside0.mk H
                                clear H
                                obtain ⟨Ao42, co42, eo42⟩ := Kd.R_slice HO_6.out
                                subst eo42
                                have p501 : 0 ≤ (x9_3 : Int) := of_decide_eq_true (by first | (with_reducible assumption) | assumption)
                                have q501 : x9_3 < (t494.length : Int) := of_decide_eq_true (by first | (with_reducible assumption) | assumption)
                                obtain ⟨ad501, e501, hx501_0, hx501_1⟩ := at_T53 (Kd.R_reads' HO_6.out).2.2 x9_3 p501 q501
                                cases e501
                                replace p501 := eq_true p501
                                replace q501 := eq_true q501
                                have p502 : 0 ≤ (x9_3 : Int) := of_decide_eq_true (by first | (with_reducible assumption) | assumption)
                                have q502 : x9_3 < (t494.length : Int) := of_decide_eq_true (by first | (with_reducible assumption) | assumption)
                                obtain ⟨ad502, e502, hx502_0, hx502_1⟩ := at_T53 (Kd.R_reads' HO_6.out).2.2 x9_3 p502 q502
                                obtain rfl : ad501 = ad502 := (by injection e502)
                                replace p502 := eq_true p502
                                replace q502 := eq_true q502
                                obtain ⟨Ao43, co43, eo43⟩ := Kd.R_slice HO_7.out
                                subst eo43
                                have p503 : 0 ≤ ((ji38) : Int) := of_decide_eq_true (by first | (with_reducible assumption) | assumption)
                                have q503 : (ji38) < (t497.length : Int) := of_decide_eq_true (by first | (with_reducible assumption) | assumption)
                                obtain ⟨ad503, e503, hx503_0, hx503_1⟩ := at_T53 (Kd.R_reads' HO_7.out).2.2 (ji38) p503 q503
                                cases e503
                                replace p503 := eq_true p503
                                replace q503 := eq_true q503
                                go_wp2
                                repeat (go_quiet (fail); try go_wp2)
                                go_roundg k3
                                case measure => have := HK1.out; have := HJ26.out; have := HK3.out; omega
                                case rel => exact ⟨(wrap64 (x8_3 + ((rd_T53 t494 x9_3).f1))), (wrap64 (x9_3 + 1)), (by first | rfl | (simp; done) | (simp [*]; done)), (by first | rfl | (simp; done) | (simp [*]; done)), H', ⟨by have := HK1.out; have := HJ26.out; have := HK3.out; omega⟩, ⟨by (with_reducible repeat (first | apply Kd.R_alloc | apply Kd.R_drewN | apply Kd.R_drew)); exact HO_6.out⟩, ⟨by (with_reducible repeat (first | apply Kd.R_alloc | apply Kd.R_drewN | apply Kd.R_drew)); exact HO_7.out⟩, ⟨by repeat (first | (with_reducible first | exact HB.out | apply below_alloc | apply pw_below_drewN | apply below_drew1) | exact HB.out)⟩⟩
                            · rw [if_neg c40] at H
                              exact absurd H (by simp)
                          · rw [if_neg c39] at H
                            exact absurd H (by simp)
                        · rw [if_neg c37] at H
                          exact absurd H (by simp)
                      · rw [if_neg c36] at H
                        have c36b0 : decide (x9_3 < (t494.length : Int)) = false := decide_eq_false c36
                        clear c36
                        by_cases c44 : x8_3 = (l0.length : Int)
                        · rw [if_pos c44] at H
                          have c44b0 : (x8_3 == (l0.length : Int)) = true := beq_iff_eq.mpr c44
                          have c44b1 : (x8_3 != (l0.length : Int)) = false := bne_eq_false_iff_eq.mpr c44
                          clear c44
                          replace H := Option.bind_eq_some_iff.mp H
                          obtain ⟨t504, A450, H⟩ := H
                          replace H : (some t504) = some r := H
                          have A45 := Aside0.mk A450
                          clear A450
                          obtain rfl := Option.some.inj H
                          obtain ⟨Ao46, co46, eo46⟩ := Kd.R_slice HO_6.out
                          subst eo46
                          go_wp2_with (first | (go_at_call 38; (with_reducible refine (bonsailaw06_live.calls k3  t504 _ A45.out).mono ?_); rintro e w47 ⟨rfl, hb⟩; have n0_ := Aside0.mk (Kd.R_below (by (with_reducible repeat (first | apply Kd.R_alloc | apply Kd.R_drewN | apply Kd.R_drew)); exact HO_6.out) hb); have n1_ := Aside0.mk (Kd.R_below (by (with_reducible repeat (first | apply Kd.R_alloc | apply Kd.R_drewN | apply Kd.R_drew)); exact HO_7.out) hb); have n2_ := Aside0.mk (below_step (by repeat (first | (with_reducible first | exact HB.out | apply below_alloc | apply pw_below_drewN | apply below_drew1) | exact HB.out)) hb); clear HO_6; clear HO_7; clear HB; have HO_6 := n0_; have HO_7 := n1_; have HB := n2_; clear n0_ n1_ n2_; (try clear hb); (try clear hb2); (try clear hk); (try clear hi)))
                          repeat (go_quiet (first | (go_at_call 38; (with_reducible refine (bonsailaw06_live.calls k3  t504 _ A45.out).mono ?_); rintro e w47 ⟨rfl, hb⟩; have n0_ := Aside0.mk (Kd.R_below (by (with_reducible repeat (first | apply Kd.R_alloc | apply Kd.R_drewN | apply Kd.R_drew)); exact HO_6.out) hb); have n1_ := Aside0.mk (Kd.R_below (by (with_reducible repeat (first | apply Kd.R_alloc | apply Kd.R_drewN | apply Kd.R_drew)); exact HO_7.out) hb); have n2_ := Aside0.mk (below_step (by repeat (first | (with_reducible first | exact HB.out | apply below_alloc | apply pw_below_drewN | apply below_drew1) | exact HB.out)) hb); clear HO_6; clear HO_7; clear HB; have HO_6 := n0_; have HO_7 := n1_; have HB := n2_; clear n0_ n1_ n2_; (try clear hb); (try clear hb2); (try clear hk); (try clear hi))); try go_wp2_with (first | (go_at_call 38; (with_reducible refine (bonsailaw06_live.calls k3  t504 _ A45.out).mono ?_); rintro e w47 ⟨rfl, hb⟩; have n0_ := Aside0.mk (Kd.R_below (by (with_reducible repeat (first | apply Kd.R_alloc | apply Kd.R_drewN | apply Kd.R_drew)); exact HO_6.out) hb); have n1_ := Aside0.mk (Kd.R_below (by (with_reducible repeat (first | apply Kd.R_alloc | apply Kd.R_drewN | apply Kd.R_drew)); exact HO_7.out) hb); have n2_ := Aside0.mk (below_step (by repeat (first | (with_reducible first | exact HB.out | apply below_alloc | apply pw_below_drewN | apply below_drew1) | exact HB.out)) hb); clear HO_6; clear HO_7; clear HB; have HO_6 := n0_; have HO_7 := n1_; have HB := n2_; clear n0_ n1_ n2_; (try clear hb); (try clear hb2); (try clear hk); (try clear hi))))
                          go_ret
                          exact ⟨by first | rfl | (simp [errW_none, errW_some] <;> rfl) | (simp [*, errW_none, errW_some] <;> rfl), by repeat (first | (with_reducible first | exact HB.out | apply below_alloc | apply pw_below_drewN | apply below_drew1) | exact HB.out)⟩
                        · rw [if_neg c44] at H
                          exact absurd H (by simp)
def bonsailaw06_RunsFew.Pure : Prop := ∀ (l0 : List Int), l0.length ≤ maxLen → l0.length * 8 ≤ 140737488351232 → (∀ x ∈ l0, (Lit.int .u64 x).wf = true) → ∃ k, bonsailaw06_RunsFew.f k l0 = some true
theorem bonsailaw06_RunsFew.walk (P : bonsailaw06_RunsFew.Pure) (a0 : Option Addr) (len0 cap0 : Nat) (z0 : List Int) (w : World) (w0 : (a0 = none ∧ len0 = 0 ∧ cap0 = 0 ∧ z0 = []) ∨ ∃ x, a0 = some x ∧ len0 ≤ cap0 ∧ cap0 ≤ maxLen ∧ z0.length = cap0 ∧ (∀ i, i < z0.length → w.cell? (x.add i) = some (.int .u64 (z0.getD i 0))) ∧ ∀ n ∈ z0, (Lit.int .u64 n).wf = true) (y0 : len0 * 8 ≤ 140737488351232) :
    Calls Try.prog 12 #[.slice a0 len0 cap0] w fun e w' => e = .returned (.bool true) ∧ Below w.heap.size w w' := by
  obtain ⟨l0, rfl, hr0, hm0, hw0, hc0⟩ := ReadsInt.ofRowC w0
  obtain ⟨k, h⟩ := P l0 hm0 y0 hw0
  refine (bonsailaw06_RunsFew.calls k _ _ l0 true w (Kd.C_of_reads (d := (0 : Int)) (h1 := fun _ => rfl) hr0) hc0 h).mono ?_
  rintro e w' ⟨rfl, hd⟩
  exact ⟨rfl, hd⟩
end Go.Proofs.Ytbgjoiccehiglaa.Print
end
section
namespace Go.Proofs.Ytbgjoiccehiglaa.LibU
open Go.RowKit Go.Proofs.Ytbgjoiccehiglaa.Print Go.Proofs.YtbgjoiccehiglaaW.PrintWords Go.Proofs.YtbgjoiccehiglaaW.PrintLast Go.Proofs.YtbgjoiccehiglaaW.PrintMore
def addR (acc : List S53) (x : Int) : List S53 :=
  match acc.getLast? with
  | some r => if r.f0 = x then acc.dropLast ++ [(⟨r.f0, r.f1 + 1⟩ : S53)] else acc ++ [(⟨x, 1⟩ : S53)]
  | none => [(⟨x, 1⟩ : S53)]
theorem addR_snoc (a : List S53) (r : S53) (x : Int) : addR (a ++ [r]) x = if r.f0 = x then a ++ [(⟨r.f0, r.f1 + 1⟩ : S53)] else a ++ [r] ++ [(⟨x, 1⟩ : S53)] := by
  unfold addR
  simp
def runs (l : List Int) : List S53 := l.foldl addR []
theorem runs_snoc (l : List Int) (x : Int) : runs (l ++ [x]) = addR (runs l) x := by simp [runs]
def spread (rs : List S53) : List Int := rs.flatMap fun r => List.replicate r.f1.toNat r.f0
theorem spread_snoc (a : List S53) (r : S53) : spread (a ++ [r]) = spread a ++ List.replicate r.f1.toNat r.f0 := by simp [spread]
inductive MayR : List S53 → Prop
  | nil : MayR []
  | one (r : S53) (h : 1 ≤ r.f1) : MayR [r]
  | snoc (a : List S53) (q r : S53) (h : MayR (a ++ [q])) (h1 : 1 ≤ r.f1) (hne : q.f0 ≠ r.f0) : MayR (a ++ [q] ++ [r])
theorem snoc_cases {α : Type} (l : List α) : l = [] ∨ ∃ a x, l = a ++ [x] := by
  rcases List.eq_nil_or_concat l with h | ⟨a, x, h⟩
  · exact .inl h
  · exact .inr ⟨a, x, by simpa using h⟩
theorem snoc_inj {α : Type} {a b : List α} {x y : α} (h : a ++ [x] = b ++ [y]) : a = b ∧ x = y := by
  have := List.append_inj' h rfl
  simpa using this
theorem MayR.last {a : List S53} {r : S53} (h : MayR (a ++ [r])) : 1 ≤ r.f1 := by
  generalize hl : a ++ [r] = l at h
  cases h with
  | nil => simp at hl
  | one q hq => obtain ⟨_, rfl⟩ := snoc_inj (b := []) hl; exact hq
  | snoc b q s h h1 hne => obtain ⟨_, rfl⟩ := snoc_inj hl; exact h1
theorem MayR.init {a : List S53} {r : S53} (h : MayR (a ++ [r])) : MayR a := by
  generalize hl : a ++ [r] = l at h
  cases h with
  | nil => simp at hl
  | one q hq => obtain ⟨rfl, _⟩ := snoc_inj (b := []) hl; exact .nil
  | snoc b q s h h1 hne => obtain ⟨rfl, _⟩ := snoc_inj hl; exact h
theorem MayR.ne {a : List S53} {q r : S53} (h : MayR (a ++ [q] ++ [r])) : q.f0 ≠ r.f0 := by
  generalize hl : a ++ [q] ++ [r] = l at h
  cases h with
  | nil => simp at hl
  | one s hs => have := congrArg List.length hl; simp at this
  | snoc b q' s h h1 hne =>
    obtain ⟨e1, rfl⟩ := snoc_inj hl
    obtain ⟨_, rfl⟩ := snoc_inj e1
    exact hne
theorem MayR.grow {a : List S53} {r : S53} (h : MayR (a ++ [r])) (n : Int) (hn : 1 ≤ n) : MayR (a ++ [(⟨r.f0, n⟩ : S53)]) := by
  rcases snoc_cases a with rfl | ⟨b, q, rfl⟩
  · exact .one _ hn
  · exact .snoc _ _ _ h.init hn h.ne
theorem MayR.add {acc : List S53} (h : MayR acc) (x : Int) : MayR (addR acc x) := by
  rcases snoc_cases acc with rfl | ⟨a, r, rfl⟩
  · exact .one _ (Int.le_refl 1)
  · rw [addR_snoc]
    split
    · exact h.grow _ (by have := h.last; omega)
    · exact .snoc _ _ _ h (Int.le_refl 1) (by assumption)
theorem may_foldl (l : List Int) : ∀ acc, MayR acc → MayR (l.foldl addR acc) := by
  induction l with
  | nil => intro acc h; exact h
  | cons x xs ih => intro acc h; exact ih _ (h.add x)
theorem may_runs (l : List Int) : MayR (runs l) := may_foldl l [] .nil
theorem spread_add {acc : List S53} (h : MayR acc) (x : Int) : spread (addR acc x) = spread acc ++ [x] := by
  rcases snoc_cases acc with rfl | ⟨a, r, rfl⟩
  · rfl
  · rw [addR_snoc]
    split
    · rename_i he
      have := h.last
      rw [spread_snoc, spread_snoc, show (r.f1 + 1).toNat = r.f1.toNat + 1 by omega, List.replicate_succ', ← List.append_assoc, he]
    · rw [spread_snoc]; rfl
theorem spread_foldl (l : List Int) : ∀ acc, MayR acc → spread (l.foldl addR acc) = spread acc ++ l := by
  induction l with
  | nil => intro acc h; simp
  | cons x xs ih => intro acc h; rw [List.foldl_cons, ih _ (h.add x), spread_add h, List.append_assoc]; rfl
theorem spread_runs (l : List Int) : spread (runs l) = l := by unfold runs; rw [spread_foldl l [] .nil]; rfl
theorem runs_rep (a : List S53) (x : Int) (h : a = [] ∨ ∃ b q, a = b ++ [q] ∧ q.f0 ≠ x) : ∀ n : Nat, (List.replicate (n + 1) x).foldl addR a = a ++ [(⟨x, (n : Int) + 1⟩ : S53)]
  | 0 => by
    rcases h with rfl | ⟨b, q, rfl, hq⟩
    · rfl
    · show addR (b ++ [q]) x = _
      rw [addR_snoc, if_neg hq]; rfl
  | n + 1 => by
    rw [List.replicate_succ', List.foldl_append, runs_rep a x h n]
    show addR _ x = _
    rw [addR_snoc, if_pos rfl]
    simp
theorem runs_spread {rs : List S53} (h : MayR rs) : runs (spread rs) = rs := by
  induction h with
  | nil => rfl
  | one r h =>
    have := runs_rep [] r.f0 (.inl rfl) (r.f1.toNat - 1)
    rw [show r.f1.toNat - 1 + 1 = r.f1.toNat by omega, show (((r.f1.toNat - 1 : Nat) : Int) + 1) = r.f1 by omega] at this
    simpa [runs, spread] using this
  | snoc a q r h h1 hne ih =>
    have := runs_rep (a ++ [q]) r.f0 (.inr ⟨a, q, rfl, hne⟩) (r.f1.toNat - 1)
    rw [show r.f1.toNat - 1 + 1 = r.f1.toNat by omega, show (((r.f1.toNat - 1 : Nat) : Int) + 1) = r.f1 by omega] at this
    rw [spread_snoc]
    unfold runs at ih ⊢
    rw [List.foldl_append, ih, this]
theorem len_spread {rs : List S53} (h : MayR rs) : rs.length ≤ (spread rs).length := by
  induction h with
  | nil => simp
  | one r h => simp [spread]; omega
  | snoc a q r h h1 hne ih => rw [spread_snoc, List.length_append, List.length_append (bs := List.replicate _ _), List.length_replicate]; simp only [List.length_cons, List.length_nil]; omega
end Go.Proofs.Ytbgjoiccehiglaa.LibU
end
