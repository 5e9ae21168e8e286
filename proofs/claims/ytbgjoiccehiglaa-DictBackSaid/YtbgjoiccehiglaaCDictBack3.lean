/- Part 3 of what DictBack stands on: merged by a program of this session out of its texts. -/
import Derived.Test.YtbgjoiccehiglaaCDictBack2
section
namespace Go.Proofs.Ytbgjoiccehiglaa.Print
open Go.RowKit Go.Proofs.YtbgjoiccehiglaaW.PrintWords Go.Proofs.YtbgjoiccehiglaaW.PrintLast Go.Proofs.YtbgjoiccehiglaaW.PrintMore
attribute [local go_sem] max2_int min2_int max_two min_two max_three min_three max_four min_four
set_option linter.unusedVariables false
set_option linter.unusedSimpArgs false
def bonsairef06_Same.l0 : Nat → List Int → List Int → Int → Option (Bool)
  | 0, _, _, _ => none
  | k + 1, x0, x1, x5 => if x5 < (x0.length : Int) then (if 0 ≤ x5 then (if x5 < (x1.length : Int) then (if (rd x0 x5) = (rd x1 x5) then (bonsairef06_Same.l0 k x0 x1 (wrap64 (x5 + 1))) else (some false)) else (none)) else (none)) else (some true)
def bonsairef06_Same.f (k : Nat) (l0 : List Int) (l1 : List Int) : Option (Bool) := if (l0.length : Int) = (l1.length : Int) then (bonsairef06_Same.l0 k l0 l1 0) else (some false)
theorem bonsairef06_Same.mono_l : ∀ k, (∀ y0 y1 y2, LeO (bonsairef06_Same.l0 k y0 y1 y2) (bonsairef06_Same.l0 (k + 1) y0 y1 y2))
  | 0 => fun _ _ _ r h => by simp [bonsairef06_Same.l0] at h
  | k + 1 => by
    have ih0 := bonsairef06_Same.mono_l k
    · intro y0 y1 y2
      unfold bonsairef06_Same.l0
      repeat' first
      | (with_reducible exact ih0 _ _ _)
      | (with_reducible exact LeO.refl _)
      | (with_reducible exact LeO.none _)
      | (with_reducible refine LeO.ite ?_ ?_)
      | (with_reducible refine LeO.bind ?_ (fun _ => ?_))
      | exact ih0 _ _ _
      | exact LeO.none _
      | refine LeO.ite ?_ ?_
      | refine LeO.bind ?_ (fun _ => ?_)
theorem bonsairef06_Same.mono : ∀ a0 a1 k, LeO (bonsairef06_Same.f k a0 a1) (bonsairef06_Same.f (k + 1) a0 a1) := by
  intro a0 a1 k
  have ih0 := bonsairef06_Same.mono_l k
  unfold bonsairef06_Same.f
  repeat' first
      | (with_reducible exact ih0 _ _ _)
      | (with_reducible exact LeO.refl _)
      | (with_reducible exact LeO.none _)
      | (with_reducible refine LeO.ite ?_ ?_)
      | (with_reducible refine LeO.bind ?_ (fun _ => ?_))
      | exact ih0 _ _ _
      | exact LeO.none _
      | refine LeO.ite ?_ ?_
      | refine LeO.bind ?_ (fun _ => ?_)
set_option maxHeartbeats 8000000 in
set_option maxRecDepth 100000 in
theorem bonsairef06_Same.calls (k : Nat) (A0 : Option Addr) (c0 : Nat) (l0 : List Int) (A1 : Option Addr) (c1 : Nat) (l1 : List Int) (r : Bool) (w : World) (hr0 : Kd.C (Kd.int .u64) w A0 l0.length l0) (hc0 : l0.length ≤ c0) (hr1 : Kd.C (Kd.int .u64) w A1 l1.length l1) (hc1 : l1.length ≤ c1) (h : bonsairef06_Same.f k l0 l1 = some r) :
    Calls Try.prog 48 #[.slice A0 l0.length c0, .slice A1 l1.length c1] w fun e w' => e = .returned (.bool r) ∧ Drawn0 w w' := by
  have HR0 := Aside0.mk hr0
  have HC0 := Aside0.mk hc0
  clear hr0 hc0
  have HR1 := Aside0.mk hr1
  have HC1 := Aside0.mk hc1
  clear hr1 hc1
  have H : (if (l0.length : Int) = (l1.length : Int) then (bonsairef06_Same.l0 k l0 l1 0) else (some false)) = some r := h
  clear h
  by_cases c3 : (l0.length : Int) = (l1.length : Int)
  · rw [if_pos c3] at H
    have c3b0 : ((l0.length : Int) == (l1.length : Int)) = true := beq_iff_eq.mpr c3
    have c3b1 : ((l0.length : Int) != (l1.length : Int)) = false := bne_eq_false_iff_eq.mpr c3
    have c3b2 : (l0.length == l1.length) = true := by first | simpa using c3 | (simp at c3 ⊢; omega)
    clear c3
    have H' := Aside0.mk H
    clear H
    go_enter Try.func48, Try.ntmps48
    go_wp2
    repeat (go_quiet (fail); try go_wp2)
    go_loopg [5] k (fun kq v5 w' => ∃ (x5_1 : Int), v5 = .int .i64 x5_1 ∧ Aside0 (bonsairef06_Same.l0 kq l0 l1 x5_1 = some r) ∧ Aside0 (kq ≤ k) ∧ Drawn0 w w')
    case atStart => exact ⟨(0), (by first | rfl | (simp; done) | (simp [*]; done)), H', ⟨Nat.le_refl _⟩, by repeat (first | exact Drawn0.refl _ | apply Drawn0.step)⟩
    case round =>
      clear H'
      try clear c1
      try clear p2
      try clear c3
      try clear c3b0
      try clear c3b1
      try clear c3b2
      obtain ⟨x5_1, rfl, HA, HK1, ⟨m1, rfl⟩⟩ := hrel
      cases gk with
      | zero => exact absurd HA.out (by simp [bonsairef06_Same.l0])
      | succ k1 =>
        have H := HA.out
        clear HA
        simp only [bonsairef06_Same.l0] at H
        by_cases c4 : x5_1 < (l0.length : Int)
        · rw [if_pos c4] at H
          have c4b0 : decide (x5_1 < (l0.length : Int)) = true := decide_eq_true c4
          clear c4
          by_cases c5 : 0 ≤ x5_1
          · rw [if_pos c5] at H
            have c5b0 : decide (0 ≤ x5_1) = true := decide_eq_true c5
            clear c5
            by_cases c6 : x5_1 < (l1.length : Int)
            · rw [if_pos c6] at H
              have c6b0 : decide (x5_1 < (l1.length : Int)) = true := decide_eq_true c6
              clear c6
              by_cases c7 : (rd l0 x5_1) = (rd l1 x5_1)
              · rw [if_pos c7] at H
                have c7b0 : ((rd l0 x5_1) == (rd l1 x5_1)) = true := beq_iff_eq.mpr c7
                have c7b1 : ((rd l0 x5_1) != (rd l1 x5_1)) = false := bne_eq_false_iff_eq.mpr c7
                clear c7
                have H' := Aside0.mk H
                clear H
                have p301 : 0 ≤ (x5_1 : Int) := of_decide_eq_true (by first | (with_reducible assumption) | assumption)
                have q301 : x5_1 < (l0.length : Int) := of_decide_eq_true (by first | (with_reducible assumption) | assumption)
                obtain ⟨ad301, e301, hx301_0⟩ := Kd.at_int HR0.out x5_1 p301 q301
                cases e301
                replace p301 := eq_true p301
                replace q301 := eq_true q301
                have p302 : 0 ≤ (x5_1 : Int) := of_decide_eq_true (by first | (with_reducible assumption) | assumption)
                have q302 : x5_1 < (l1.length : Int) := of_decide_eq_true (by first | (with_reducible assumption) | assumption)
                obtain ⟨ad302, e302, hx302_0⟩ := Kd.at_int HR1.out x5_1 p302 q302
                cases e302
                replace p302 := eq_true p302
                replace q302 := eq_true q302
                go_wp2
                repeat (go_quiet (fail); try go_wp2)
                go_roundg k1
                case measure => have := HK1.out; omega
                case rel => exact ⟨(wrap64 (x5_1 + 1)), (by first | rfl | (simp; done) | (simp [*]; done)), H', ⟨by have := HK1.out; omega⟩, by repeat (first | exact Drawn0.refl _ | apply Drawn0.step)⟩
              · rw [if_neg c7] at H
                have c7b0 : ((rd l0 x5_1) == (rd l1 x5_1)) = false := beq_eq_false_iff_ne.mpr c7
                have c7b1 : ((rd l0 x5_1) != (rd l1 x5_1)) = true := bne_iff_ne.mpr c7
                obtain rfl := Option.some.inj H
                have p301 : 0 ≤ (x5_1 : Int) := of_decide_eq_true (by first | (with_reducible assumption) | assumption)
                have q301 : x5_1 < (l0.length : Int) := of_decide_eq_true (by first | (with_reducible assumption) | assumption)
                obtain ⟨ad301, e301, hx301_0⟩ := Kd.at_int HR0.out x5_1 p301 q301
                cases e301
                replace p301 := eq_true p301
                replace q301 := eq_true q301
                have p302 : 0 ≤ (x5_1 : Int) := of_decide_eq_true (by first | (with_reducible assumption) | assumption)
                have q302 : x5_1 < (l1.length : Int) := of_decide_eq_true (by first | (with_reducible assumption) | assumption)
                obtain ⟨ad302, e302, hx302_0⟩ := Kd.at_int HR1.out x5_1 p302 q302
                cases e302
                replace p302 := eq_true p302
                replace q302 := eq_true q302
                go_wp2
                repeat (go_quiet (fail); try go_wp2)
                go_ret
                exact ⟨by first | rfl | (simp; done) | (simp [*]; done), by repeat (first | exact Drawn0.refl _ | apply Drawn0.step)⟩
            · rw [if_neg c6] at H
              exact absurd H (by simp)
          · rw [if_neg c5] at H
            exact absurd H (by simp)
        · rw [if_neg c4] at H
          have c4b0 : decide (x5_1 < (l0.length : Int)) = false := decide_eq_false c4
          clear c4
          obtain rfl := Option.some.inj H
          go_wp2
          repeat (go_quiet (fail); try go_wp2)
          go_ret
          exact ⟨by first | rfl | (simp; done) | (simp [*]; done), by repeat (first | exact Drawn0.refl _ | apply Drawn0.step)⟩
  · rw [if_neg c3] at H
    have c3b0 : ((l0.length : Int) == (l1.length : Int)) = false := beq_eq_false_iff_ne.mpr c3
    have c3b1 : ((l0.length : Int) != (l1.length : Int)) = true := bne_iff_ne.mpr c3
    have c3b2 : (l0.length == l1.length) = false := by first | simpa using c3 | (simp at c3 ⊢; omega)
    obtain rfl := Option.some.inj H
    go_enter Try.func48, Try.ntmps48
    go_wp2
    repeat (go_quiet (fail); try go_wp2)
    go_ret
    exact ⟨by first | rfl | (simp; done) | (simp [*]; done), by repeat (first | exact Drawn0.refl _ | apply Drawn0.step)⟩
def runs_Decode.l0 : Nat → Int → List (S53) → Int → ByteArray → Int → Option (List Int × Int)
  | 0, _, _, _, _, _ => none
  | k + 1, x1, x7, x8, x306000, x306001 => (pack_Reader_Left.f x306000 x306001).bind fun bt306 => (if bt306.1 > 0 then ((pack_Reader_Num.f bt306.2.1 bt306.2.2).bind fun bt313 => ((pack_Reader_Num.f bt313.2.1 bt313.2.2).bind fun bt316 => ((pack_Reader_Err.f bt316.2.1 bt316.2.2).bind fun bt319 => (if bt319.1 = 0 then (if bt316.1 = 0 then (some (([] : List Int), 5)) else (if bt316.1 > (IntKind.u64.wrap (x8)) then (some (([] : List Int), 5)) else (if (wrap64 ((x7.length : Int) - 1)) ≥ 0 then (if 0 ≤ (wrap64 ((x7.length : Int) - 1)) then (if (wrap64 ((x7.length : Int) - 1)) < (x7.length : Int) then (if ((rd_T53 x7 (wrap64 ((x7.length : Int) - 1))).f0) = bt313.1 then (some (([] : List Int), 5)) else (if x7.length < 8796093022208 then (runs_Decode.l0 k x1 (x7 ++ [(⟨bt313.1, wrap64 (bt316.1)⟩ : S53)]) (wrap64 (x8 - (wrap64 (bt316.1)))) bt319.2.1 bt319.2.2) else (none))) else (none)) else (none)) else (if x7.length < 8796093022208 then (runs_Decode.l0 k x1 (x7 ++ [(⟨bt313.1, wrap64 (bt316.1)⟩ : S53)]) (wrap64 (x8 - (wrap64 (bt316.1)))) bt319.2.1 bt319.2.2) else (none))))) else (some (([] : List Int), bt319.1)))))) else (if x8 > 0 then (some (([] : List Int), 5)) else ((runs_Spread.f k x7 x1).bind fun bt309 => (some (bt309.1, 0)))))
def runs_Decode.f (k : Nat) (a0 : ByteArray) (a1 : Int) : Option (List Int × Int) := if a1 < 0 then (some (([] : List Int), 1)) else (if a1 > 4096 then (some (([] : List Int), 10)) else ((pack_New.f a0).bind fun bt303 => (runs_Decode.l0 k a1 ([] : List (S53)) a1 bt303.1 bt303.2)))
theorem runs_Decode.mono_l : ∀ k, (∀ y0 y1 y2 y3 y4, LeO (runs_Decode.l0 k y0 y1 y2 y3 y4) (runs_Decode.l0 (k + 1) y0 y1 y2 y3 y4))
  | 0 => fun _ _ _ _ _ r h => by simp [runs_Decode.l0] at h
  | k + 1 => by
    have ih0 := runs_Decode.mono_l k
    · intro y0 y1 y2 y3 y4
      unfold runs_Decode.l0
      repeat' first
      | (with_reducible exact ih0 _ _ _ _ _)
      | (with_reducible exact runs_Spread.mono _ _ _)
      | (with_reducible exact LeO.refl _)
      | (with_reducible exact LeO.none _)
      | (with_reducible refine LeO.ite ?_ ?_)
      | (with_reducible refine LeO.bind ?_ (fun _ => ?_))
      | exact ih0 _ _ _ _ _
      | exact runs_Spread.mono _ _ _
      | exact LeO.none _
      | refine LeO.ite ?_ ?_
      | refine LeO.bind ?_ (fun _ => ?_)
theorem runs_Decode.mono : ∀ a0 a1 k, LeO (runs_Decode.f k a0 a1) (runs_Decode.f (k + 1) a0 a1) := by
  intro a0 a1 k
  have ih0 := runs_Decode.mono_l k
  unfold runs_Decode.f
  repeat' first
      | (with_reducible exact ih0 _ _ _ _ _)
      | (with_reducible exact runs_Spread.mono _ _ _)
      | (with_reducible exact LeO.refl _)
      | (with_reducible exact LeO.none _)
      | (with_reducible refine LeO.ite ?_ ?_)
      | (with_reducible refine LeO.bind ?_ (fun _ => ?_))
      | exact ih0 _ _ _ _ _
      | exact runs_Spread.mono _ _ _
      | exact LeO.none _
      | refine LeO.ite ?_ ?_
      | refine LeO.bind ?_ (fun _ => ?_)
set_option maxHeartbeats 8000000 in
set_option maxRecDepth 100000 in
theorem runs_Decode.calls (k : Nat) (a0 : ByteArray) (a1 : Int) (r1 : List Int) (r2 : Int) (w : World) (h : runs_Decode.f k a0 a1 = some (r1, r2)) :
    Calls Try.prog 49 #[.string a0, .int .i64 a1] w fun e w' => ∃ v0_ : Value, e = .returned (.tuple #[v0_, .int .i64 r2]) ∧ Kd.R (Kd.int .u64) 51 w' w.heap.size (fun _ => True) v0_ r1 ∧ Below w.heap.size w w' := by
  have hu53 := Try.underlying53
  have HB := Aside0.mk (Below.refl w.heap.size w)
  have H : (if a1 < 0 then (some (([] : List Int), 1)) else (if a1 > 4096 then (some (([] : List Int), 10)) else ((pack_New.f a0).bind fun bt303 => (runs_Decode.l0 k a1 ([] : List (S53)) a1 bt303.1 bt303.2)))) = some (r1, r2) := h
  clear h
  by_cases c3 : a1 < 0
  · rw [if_pos c3] at H
    have c3b0 : decide (a1 < 0) = true := decide_eq_true c3
    clear c3
    simp only [Option.some.injEq, Prod.mk.injEq] at H
    obtain ⟨rfl, rfl⟩ := H
    go_enter Try.func49, Try.ntmps49
    go_wp2
    go_ret2
    exact ⟨_, by first | rfl | (simp [errW_none, errW_some] <;> rfl) | (simp [*, errW_none, errW_some] <;> rfl), by first | exact Kd.R_nil _ _ _ _ _ | exact Kd.N_nil _ _ _ _ _ | exact Kd.V_nil _ _ _ _ _ | exact Kd.Q_nil _ _ _ _ _ | exact Kd.S_nil _ _ _ _ _, by repeat (first | (with_reducible first | exact HB.out | apply below_alloc | apply pw_below_drewN | apply below_drew1) | exact HB.out)⟩
  · rw [if_neg c3] at H
    have c3b0 : decide (a1 < 0) = false := decide_eq_false c3
    clear c3
    by_cases c4 : a1 > 4096
    · rw [if_pos c4] at H
      have c4b0 : decide (4096 < a1) = true := decide_eq_true c4
      clear c4
      simp only [Option.some.injEq, Prod.mk.injEq] at H
      obtain ⟨rfl, rfl⟩ := H
      go_enter Try.func49, Try.ntmps49
      go_wp2
      go_ret2
      exact ⟨_, by first | rfl | (simp [errW_none, errW_some] <;> rfl) | (simp [*, errW_none, errW_some] <;> rfl), by first | exact Kd.R_nil _ _ _ _ _ | exact Kd.N_nil _ _ _ _ _ | exact Kd.V_nil _ _ _ _ _ | exact Kd.Q_nil _ _ _ _ _ | exact Kd.S_nil _ _ _ _ _, by repeat (first | (with_reducible first | exact HB.out | apply below_alloc | apply pw_below_drewN | apply below_drew1) | exact HB.out)⟩
    · rw [if_neg c4] at H
      have c4b0 : decide (4096 < a1) = false := decide_eq_false c4
      clear c4
      replace H := Option.bind_eq_some_iff.mp H
      obtain ⟨⟨t303, t304⟩, A50, H⟩ := H
      replace H : (runs_Decode.l0 k a1 ([] : List (S53)) a1 t303 t304) = some (r1, r2) := H
      have A5 := Aside0.mk A50
      clear A50
      have H' := Aside0.mk H
      clear H
      go_enter Try.func49, Try.ntmps49
      go_wp2_with (first | ((with_reducible refine gate_callee (f := 80) rfl ?_); refine goesL_ (some 22) rfl rfl Try.func80 (by kernel_rfl) rfl #[.string a0] rfl (by (try simp only [List.map_toArray, List.map_cons, List.map_nil]); first | done | rfl | (simp only [List.length_drop, List.length_take]; rfl)) ?_; (with_reducible refine (pack_New.calls a0 t303 t304 w _ ?side1 A5.out).mono ?_); (case side1 => repeat (first | (with_reducible first | exact HB.out | apply below_alloc | apply pw_below_drewN | apply below_drew1) | exact HB.out)); rintro e w6 ⟨g305, rfl, hi, hb, hb2⟩; refine ⟨_, rfl, ?_⟩; have n0_ := Aside0.mk (hb); have n1_ := Aside0.mk (hi); clear HB; have HB := n0_; have HI305 := n1_; clear n0_ n1_; (try clear hb); (try clear hb2); (try clear hk); (try clear hi)))
      go_loopg [7, 8] k (fun kq v7 v8 w' => ∃ (x7_1 : List (S53)) (x8_1 : Int) (x306000_1 : ByteArray) (x306001_1 : Int), v8 = .int .i64 x8_1 ∧ Aside0 (runs_Decode.l0 kq a1 x7_1 x8_1 x306000_1 x306001_1 = some (r1, r2)) ∧ Aside0 (kq ≤ k) ∧ Aside0 (Kd.R k53 53 w' w.heap.size (fun _ => True) v7 x7_1) ∧ Aside0 (IsS120 w w' g305 x306000_1 x306001_1) ∧ Aside0 (Below w.heap.size w w'))
      case atStart => exact ⟨(([] : List (S53))), (a1), (t303), (t304), (by first | rfl | (simp; done) | (simp [*]; done)), H', ⟨Nat.le_refl _⟩, ⟨by first | exact Kd.R_nil _ _ _ _ _ | exact Kd.N_nil _ _ _ _ _ | exact Kd.V_nil _ _ _ _ _ | exact Kd.Q_nil _ _ _ _ _ | exact Kd.S_nil _ _ _ _ _⟩, ⟨by repeat (first | (with_reducible first | exact HI305.out | apply IsS120.alloc | apply IsS120.drewN | apply IsS120.drew | apply IsS120.set_0 | apply IsS120.set_1) | exact HI305.out)⟩, ⟨by repeat (first | (with_reducible first | exact HB.out | apply below_alloc | apply pw_below_drewN | apply below_drew1 | refine below_set ?_ (IsS120.ge HI305.out)) | exact HB.out)⟩⟩
      case round =>
        clear H'
        try clear p2
        try clear c3
        try clear c3b0
        try clear c4
        try clear c4b0
        obtain ⟨x7_1, x8_1, x306000_1, x306001_1, rfl, HA, HK1, HO_7, HI305, HB⟩ := hrel
        cases gk with
        | zero => exact absurd HA.out (by simp [runs_Decode.l0])
        | succ k1 =>
          have H := HA.out
          clear HA
          simp only [runs_Decode.l0] at H
          replace H := Option.bind_eq_some_iff.mp H
          obtain ⟨⟨t306, t307, t308⟩, A70, H⟩ := H
          replace H : (if t306 > 0 then ((pack_Reader_Num.f t307 t308).bind fun bt313 => ((pack_Reader_Num.f bt313.2.1 bt313.2.2).bind fun bt316 => ((pack_Reader_Err.f bt316.2.1 bt316.2.2).bind fun bt319 => (if bt319.1 = 0 then (if bt316.1 = 0 then (some (([] : List Int), 5)) else (if bt316.1 > (IntKind.u64.wrap (x8_1)) then (some (([] : List Int), 5)) else (if (wrap64 ((x7_1.length : Int) - 1)) ≥ 0 then (if 0 ≤ (wrap64 ((x7_1.length : Int) - 1)) then (if (wrap64 ((x7_1.length : Int) - 1)) < (x7_1.length : Int) then (if ((rd_T53 x7_1 (wrap64 ((x7_1.length : Int) - 1))).f0) = bt313.1 then (some (([] : List Int), 5)) else (if x7_1.length < 8796093022208 then (runs_Decode.l0 k1 a1 (x7_1 ++ [(⟨bt313.1, wrap64 (bt316.1)⟩ : S53)]) (wrap64 (x8_1 - (wrap64 (bt316.1)))) bt319.2.1 bt319.2.2) else (none))) else (none)) else (none)) else (if x7_1.length < 8796093022208 then (runs_Decode.l0 k1 a1 (x7_1 ++ [(⟨bt313.1, wrap64 (bt316.1)⟩ : S53)]) (wrap64 (x8_1 - (wrap64 (bt316.1)))) bt319.2.1 bt319.2.2) else (none))))) else (some (([] : List Int), bt319.1)))))) else (if x8_1 > 0 then (some (([] : List Int), 5)) else ((runs_Spread.f k1 x7_1 a1).bind fun bt309 => (some (bt309.1, 0))))) = some (r1, r2) := H
          have A7 := Aside0.mk A70
          clear A70
          by_cases c8 : t306 > 0
          · rw [if_pos c8] at H
            have c8b0 : decide (0 < t306) = true := decide_eq_true c8
            clear c8
            replace H := Option.bind_eq_some_iff.mp H
            obtain ⟨⟨t313, t314, t315⟩, A90, H⟩ := H
            replace H : ((pack_Reader_Num.f t314 t315).bind fun bt316 => ((pack_Reader_Err.f bt316.2.1 bt316.2.2).bind fun bt319 => (if bt319.1 = 0 then (if bt316.1 = 0 then (some (([] : List Int), 5)) else (if bt316.1 > (IntKind.u64.wrap (x8_1)) then (some (([] : List Int), 5)) else (if (wrap64 ((x7_1.length : Int) - 1)) ≥ 0 then (if 0 ≤ (wrap64 ((x7_1.length : Int) - 1)) then (if (wrap64 ((x7_1.length : Int) - 1)) < (x7_1.length : Int) then (if ((rd_T53 x7_1 (wrap64 ((x7_1.length : Int) - 1))).f0) = t313 then (some (([] : List Int), 5)) else (if x7_1.length < 8796093022208 then (runs_Decode.l0 k1 a1 (x7_1 ++ [(⟨t313, wrap64 (bt316.1)⟩ : S53)]) (wrap64 (x8_1 - (wrap64 (bt316.1)))) bt319.2.1 bt319.2.2) else (none))) else (none)) else (none)) else (if x7_1.length < 8796093022208 then (runs_Decode.l0 k1 a1 (x7_1 ++ [(⟨t313, wrap64 (bt316.1)⟩ : S53)]) (wrap64 (x8_1 - (wrap64 (bt316.1)))) bt319.2.1 bt319.2.2) else (none))))) else (some (([] : List Int), bt319.1))))) = some (r1, r2) := H
            have A9 := Aside0.mk A90
            clear A90
            replace H := Option.bind_eq_some_iff.mp H
            obtain ⟨⟨t316, t317, t318⟩, A100, H⟩ := H
            replace H : ((pack_Reader_Err.f t317 t318).bind fun bt319 => (if bt319.1 = 0 then (if t316 = 0 then (some (([] : List Int), 5)) else (if t316 > (IntKind.u64.wrap (x8_1)) then (some (([] : List Int), 5)) else (if (wrap64 ((x7_1.length : Int) - 1)) ≥ 0 then (if 0 ≤ (wrap64 ((x7_1.length : Int) - 1)) then (if (wrap64 ((x7_1.length : Int) - 1)) < (x7_1.length : Int) then (if ((rd_T53 x7_1 (wrap64 ((x7_1.length : Int) - 1))).f0) = t313 then (some (([] : List Int), 5)) else (if x7_1.length < 8796093022208 then (runs_Decode.l0 k1 a1 (x7_1 ++ [(⟨t313, wrap64 (t316)⟩ : S53)]) (wrap64 (x8_1 - (wrap64 (t316)))) bt319.2.1 bt319.2.2) else (none))) else (none)) else (none)) else (if x7_1.length < 8796093022208 then (runs_Decode.l0 k1 a1 (x7_1 ++ [(⟨t313, wrap64 (t316)⟩ : S53)]) (wrap64 (x8_1 - (wrap64 (t316)))) bt319.2.1 bt319.2.2) else (none))))) else (some (([] : List Int), bt319.1)))) = some (r1, r2) := H
            have A10 := Aside0.mk A100
            clear A100
            replace H := Option.bind_eq_some_iff.mp H
            obtain ⟨⟨t319, t320, t321⟩, A110, H⟩ := H
            replace H : (if t319 = 0 then (if t316 = 0 then (some (([] : List Int), 5)) else (if t316 > (IntKind.u64.wrap (x8_1)) then (some (([] : List Int), 5)) else (if (wrap64 ((x7_1.length : Int) - 1)) ≥ 0 then (if 0 ≤ (wrap64 ((x7_1.length : Int) - 1)) then (if (wrap64 ((x7_1.length : Int) - 1)) < (x7_1.length : Int) then (if ((rd_T53 x7_1 (wrap64 ((x7_1.length : Int) - 1))).f0) = t313 then (some (([] : List Int), 5)) else (if x7_1.length < 8796093022208 then (runs_Decode.l0 k1 a1 (x7_1 ++ [(⟨t313, wrap64 (t316)⟩ : S53)]) (wrap64 (x8_1 - (wrap64 (t316)))) t320 t321) else (none))) else (none)) else (none)) else (if x7_1.length < 8796093022208 then (runs_Decode.l0 k1 a1 (x7_1 ++ [(⟨t313, wrap64 (t316)⟩ : S53)]) (wrap64 (x8_1 - (wrap64 (t316)))) t320 t321) else (none))))) else (some (([] : List Int), t319))) = some (r1, r2) := H
            have A11 := Aside0.mk A110
            clear A110
            by_cases c12 : t319 = 0
            · rw [if_pos c12] at H
              have c12b0 : (t319 == 0) = true := beq_iff_eq.mpr c12
              have c12b1 : (t319 != 0) = false := bne_eq_false_iff_eq.mpr c12
              clear c12
              by_cases c13 : t316 = 0
              · rw [if_pos c13] at H
                have c13b0 : (t316 == 0) = true := beq_iff_eq.mpr c13
                have c13b1 : (t316 != 0) = false := bne_eq_false_iff_eq.mpr c13
                clear c13
                simp only [Option.some.injEq, Prod.mk.injEq] at H
                obtain ⟨rfl, rfl⟩ := H
                go_wp2_with (first | ((with_reducible refine gate_callee (f := 83) rfl ?_); refine goesL_ (some 25) rfl rfl Try.func83 (by kernel_rfl) rfl #[.pointer (some ⟨g305, 0, none⟩)] rfl (by (try simp only [List.map_toArray, List.map_cons, List.map_nil]); first | done | rfl | (simp only [List.length_drop, List.length_take]; rfl)) ?_; (with_reducible refine (pack_Reader_Left.calls g305 x306000_1 x306001_1 t306 t307 t308 w _ ?side1 ?side2 A7.out).mono ?_); (case side1 => repeat (first | (with_reducible first | exact HI305.out | apply IsS120.alloc | apply IsS120.drewN | apply IsS120.drew | apply IsS120.set_0 | apply IsS120.set_1) | exact HI305.out)); (case side2 => repeat (first | (with_reducible first | exact HB.out | apply below_alloc | apply pw_below_drewN | apply below_drew1 | refine below_set ?_ (IsS120.ge HI305.out)) | exact HB.out)); rintro e w14 ⟨rfl, hi, hb, hk⟩; refine ⟨_, rfl, ?_⟩; have n0_ := Aside0.mk (Kd.R_mono (Kd.R_keep (IsS120.apart (show IsS120 w _ g305 x306000_1 x306001_1 from by repeat (first | (with_reducible first | exact HI305.out | apply IsS120.alloc | apply IsS120.drewN | apply IsS120.drew | apply IsS120.set_0 | apply IsS120.set_1) | exact HI305.out)) (by (with_reducible repeat (first | apply Kd.R_alloc | apply Kd.R_drewN | apply Kd.R_drew)); exact HO_7.out) (by decide)) hk (fun _ h => h.2)) (fun _ h => h.1)); have n1_ := Aside0.mk (hb); have n2_ := Aside0.mk (hi); clear HO_7; clear HB; clear HI305; have HO_7 := n0_; have HB := n1_; have HI305 := n2_; clear n0_ n1_ n2_; (try clear hb); (try clear hb2); (try clear hk); (try clear hi)) | ((with_reducible refine gate_callee (f := 81) rfl ?_); refine goesL_ (some 28) rfl rfl Try.func81 (by kernel_rfl) rfl #[.pointer (some ⟨g305, 0, none⟩)] rfl (by (try simp only [List.map_toArray, List.map_cons, List.map_nil]); first | done | rfl | (simp only [List.length_drop, List.length_take]; rfl)) ?_; (with_reducible refine (pack_Reader_Num.calls g305 t307 t308 t313 t314 t315 w _ ?side1 ?side2 A9.out).mono ?_); (case side1 => repeat (first | (with_reducible first | exact HI305.out | apply IsS120.alloc | apply IsS120.drewN | apply IsS120.drew | apply IsS120.set_0 | apply IsS120.set_1) | exact HI305.out)); (case side2 => repeat (first | (with_reducible first | exact HB.out | apply below_alloc | apply pw_below_drewN | apply below_drew1 | refine below_set ?_ (IsS120.ge HI305.out)) | exact HB.out)); rintro e w15 ⟨rfl, hi, hb, hk⟩; refine ⟨_, rfl, ?_⟩; have n0_ := Aside0.mk (Kd.R_mono (Kd.R_keep (IsS120.apart (show IsS120 w _ g305 t307 t308 from by repeat (first | (with_reducible first | exact HI305.out | apply IsS120.alloc | apply IsS120.drewN | apply IsS120.drew | apply IsS120.set_0 | apply IsS120.set_1) | exact HI305.out)) (by (with_reducible repeat (first | apply Kd.R_alloc | apply Kd.R_drewN | apply Kd.R_drew)); exact HO_7.out) (by decide)) hk (fun _ h => h.2)) (fun _ h => h.1)); have n1_ := Aside0.mk (hb); have n2_ := Aside0.mk (hi); clear HO_7; clear HB; clear HI305; have HO_7 := n0_; have HB := n1_; have HI305 := n2_; clear n0_ n1_ n2_; (try clear hb); (try clear hb2); (try clear hk); (try clear hi)) | ((with_reducible refine gate_callee (f := 81) rfl ?_); refine goesL_ (some 30) rfl rfl Try.func81 (by kernel_rfl) rfl #[.pointer (some ⟨g305, 0, none⟩)] rfl (by (try simp only [List.map_toArray, List.map_cons, List.map_nil]); first | done | rfl | (simp only [List.length_drop, List.length_take]; rfl)) ?_; (with_reducible refine (pack_Reader_Num.calls g305 t314 t315 t316 t317 t318 w _ ?side1 ?side2 A10.out).mono ?_); (case side1 => repeat (first | (with_reducible first | exact HI305.out | apply IsS120.alloc | apply IsS120.drewN | apply IsS120.drew | apply IsS120.set_0 | apply IsS120.set_1) | exact HI305.out)); (case side2 => repeat (first | (with_reducible first | exact HB.out | apply below_alloc | apply pw_below_drewN | apply below_drew1 | refine below_set ?_ (IsS120.ge HI305.out)) | exact HB.out)); rintro e w16 ⟨rfl, hi, hb, hk⟩; refine ⟨_, rfl, ?_⟩; have n0_ := Aside0.mk (Kd.R_mono (Kd.R_keep (IsS120.apart (show IsS120 w _ g305 t314 t315 from by repeat (first | (with_reducible first | exact HI305.out | apply IsS120.alloc | apply IsS120.drewN | apply IsS120.drew | apply IsS120.set_0 | apply IsS120.set_1) | exact HI305.out)) (by (with_reducible repeat (first | apply Kd.R_alloc | apply Kd.R_drewN | apply Kd.R_drew)); exact HO_7.out) (by decide)) hk (fun _ h => h.2)) (fun _ h => h.1)); have n1_ := Aside0.mk (hb); have n2_ := Aside0.mk (hi); clear HO_7; clear HB; clear HI305; have HO_7 := n0_; have HB := n1_; have HI305 := n2_; clear n0_ n1_ n2_; (try clear hb); (try clear hb2); (try clear hk); (try clear hi)) | ((with_reducible refine gate_callee (f := 82) rfl ?_); refine goesL_ (some 32) rfl rfl Try.func82 (by kernel_rfl) rfl #[.pointer (some ⟨g305, 0, none⟩)] rfl (by (try simp only [List.map_toArray, List.map_cons, List.map_nil]); first | done | rfl | (simp only [List.length_drop, List.length_take]; rfl)) ?_; (with_reducible refine (pack_Reader_Err.calls g305 t317 t318 t319 t320 t321 w _ ?side1 ?side2 A11.out).mono ?_); (case side1 => repeat (first | (with_reducible first | exact HI305.out | apply IsS120.alloc | apply IsS120.drewN | apply IsS120.drew | apply IsS120.set_0 | apply IsS120.set_1) | exact HI305.out)); (case side2 => repeat (first | (with_reducible first | exact HB.out | apply below_alloc | apply pw_below_drewN | apply below_drew1 | refine below_set ?_ (IsS120.ge HI305.out)) | exact HB.out)); rintro e w17 ⟨rfl, hi, hb, hk⟩; refine ⟨_, rfl, ?_⟩; have n0_ := Aside0.mk (Kd.R_mono (Kd.R_keep (IsS120.apart (show IsS120 w _ g305 t317 t318 from by repeat (first | (with_reducible first | exact HI305.out | apply IsS120.alloc | apply IsS120.drewN | apply IsS120.drew | apply IsS120.set_0 | apply IsS120.set_1) | exact HI305.out)) (by (with_reducible repeat (first | apply Kd.R_alloc | apply Kd.R_drewN | apply Kd.R_drew)); exact HO_7.out) (by decide)) hk (fun _ h => h.2)) (fun _ h => h.1)); have n1_ := Aside0.mk (hb); have n2_ := Aside0.mk (hi); clear HO_7; clear HB; clear HI305; have HO_7 := n0_; have HB := n1_; have HI305 := n2_; clear n0_ n1_ n2_; (try clear hb); (try clear hb2); (try clear hk); (try clear hi); obtain ⟨Ao18, co18, eo18⟩ := Kd.R_slice HO_7.out; subst eo18))
                go_ret2
                exact ⟨_, by first | rfl | (simp [errW_none, errW_some] <;> rfl) | (simp [*, errW_none, errW_some] <;> rfl), by first | exact Kd.R_nil _ _ _ _ _ | exact Kd.N_nil _ _ _ _ _ | exact Kd.V_nil _ _ _ _ _ | exact Kd.Q_nil _ _ _ _ _ | exact Kd.S_nil _ _ _ _ _, by repeat (first | (with_reducible first | exact HB.out | apply below_alloc | apply pw_below_drewN | apply below_drew1 | refine below_set ?_ (IsS120.ge HI305.out)) | exact HB.out)⟩
              · rw [if_neg c13] at H
                have c13b0 : (t316 == 0) = false := beq_eq_false_iff_ne.mpr c13
                have c13b1 : (t316 != 0) = true := bne_iff_ne.mpr c13
                by_cases c19 : t316 > (IntKind.u64.wrap (x8_1))
                · rw [if_pos c19] at H
                  have c19b0 : decide ((IntKind.u64.wrap (x8_1)) < t316) = true := decide_eq_true c19
                  clear c19
                  simp only [Option.some.injEq, Prod.mk.injEq] at H
                  obtain ⟨rfl, rfl⟩ := H
                  go_wp2_with (first | ((with_reducible refine gate_callee (f := 83) rfl ?_); refine goesL_ (some 25) rfl rfl Try.func83 (by kernel_rfl) rfl #[.pointer (some ⟨g305, 0, none⟩)] rfl (by (try simp only [List.map_toArray, List.map_cons, List.map_nil]); first | done | rfl | (simp only [List.length_drop, List.length_take]; rfl)) ?_; (with_reducible refine (pack_Reader_Left.calls g305 x306000_1 x306001_1 t306 t307 t308 w _ ?side1 ?side2 A7.out).mono ?_); (case side1 => repeat (first | (with_reducible first | exact HI305.out | apply IsS120.alloc | apply IsS120.drewN | apply IsS120.drew | apply IsS120.set_0 | apply IsS120.set_1) | exact HI305.out)); (case side2 => repeat (first | (with_reducible first | exact HB.out | apply below_alloc | apply pw_below_drewN | apply below_drew1 | refine below_set ?_ (IsS120.ge HI305.out)) | exact HB.out)); rintro e w20 ⟨rfl, hi, hb, hk⟩; refine ⟨_, rfl, ?_⟩; have n0_ := Aside0.mk (Kd.R_mono (Kd.R_keep (IsS120.apart (show IsS120 w _ g305 x306000_1 x306001_1 from by repeat (first | (with_reducible first | exact HI305.out | apply IsS120.alloc | apply IsS120.drewN | apply IsS120.drew | apply IsS120.set_0 | apply IsS120.set_1) | exact HI305.out)) (by (with_reducible repeat (first | apply Kd.R_alloc | apply Kd.R_drewN | apply Kd.R_drew)); exact HO_7.out) (by decide)) hk (fun _ h => h.2)) (fun _ h => h.1)); have n1_ := Aside0.mk (hb); have n2_ := Aside0.mk (hi); clear HO_7; clear HB; clear HI305; have HO_7 := n0_; have HB := n1_; have HI305 := n2_; clear n0_ n1_ n2_; (try clear hb); (try clear hb2); (try clear hk); (try clear hi)) | ((with_reducible refine gate_callee (f := 81) rfl ?_); refine goesL_ (some 28) rfl rfl Try.func81 (by kernel_rfl) rfl #[.pointer (some ⟨g305, 0, none⟩)] rfl (by (try simp only [List.map_toArray, List.map_cons, List.map_nil]); first | done | rfl | (simp only [List.length_drop, List.length_take]; rfl)) ?_; (with_reducible refine (pack_Reader_Num.calls g305 t307 t308 t313 t314 t315 w _ ?side1 ?side2 A9.out).mono ?_); (case side1 => repeat (first | (with_reducible first | exact HI305.out | apply IsS120.alloc | apply IsS120.drewN | apply IsS120.drew | apply IsS120.set_0 | apply IsS120.set_1) | exact HI305.out)); (case side2 => repeat (first | (with_reducible first | exact HB.out | apply below_alloc | apply pw_below_drewN | apply below_drew1 | refine below_set ?_ (IsS120.ge HI305.out)) | exact HB.out)); rintro e w21 ⟨rfl, hi, hb, hk⟩; refine ⟨_, rfl, ?_⟩; have n0_ := Aside0.mk (Kd.R_mono (Kd.R_keep (IsS120.apart (show IsS120 w _ g305 t307 t308 from by repeat (first | (with_reducible first | exact HI305.out | apply IsS120.alloc | apply IsS120.drewN | apply IsS120.drew | apply IsS120.set_0 | apply IsS120.set_1) | exact HI305.out)) (by (with_reducible repeat (first | apply Kd.R_alloc | apply Kd.R_drewN | apply Kd.R_drew)); exact HO_7.out) (by decide)) hk (fun _ h => h.2)) (fun _ h => h.1)); have n1_ := Aside0.mk (hb); have n2_ := Aside0.mk (hi); clear HO_7; clear HB; clear HI305; have HO_7 := n0_; have HB := n1_; have HI305 := n2_; clear n0_ n1_ n2_; (try clear hb); (try clear hb2); (try clear hk); (try clear hi)) | ((with_reducible refine gate_callee (f := 81) rfl ?_); refine goesL_ (some 30) rfl rfl Try.func81 (by kernel_rfl) rfl #[.pointer (some ⟨g305, 0, none⟩)] rfl (by (try simp only [List.map_toArray, List.map_cons, List.map_nil]); first | done | rfl | (simp only [List.length_drop, List.length_take]; rfl)) ?_; (with_reducible refine (pack_Reader_Num.calls g305 t314 t315 t316 t317 t318 w _ ?side1 ?side2 A10.out).mono ?_); (case side1 => repeat (first | (with_reducible first | exact HI305.out | apply IsS120.alloc | apply IsS120.drewN | apply IsS120.drew | apply IsS120.set_0 | apply IsS120.set_1) | exact HI305.out)); (case side2 => repeat (first | (with_reducible first | exact HB.out | apply below_alloc | apply pw_below_drewN | apply below_drew1 | refine below_set ?_ (IsS120.ge HI305.out)) | exact HB.out)); rintro e w22 ⟨rfl, hi, hb, hk⟩; refine ⟨_, rfl, ?_⟩; have n0_ := Aside0.mk (Kd.R_mono (Kd.R_keep (IsS120.apart (show IsS120 w _ g305 t314 t315 from by repeat (first | (with_reducible first | exact HI305.out | apply IsS120.alloc | apply IsS120.drewN | apply IsS120.drew | apply IsS120.set_0 | apply IsS120.set_1) | exact HI305.out)) (by (with_reducible repeat (first | apply Kd.R_alloc | apply Kd.R_drewN | apply Kd.R_drew)); exact HO_7.out) (by decide)) hk (fun _ h => h.2)) (fun _ h => h.1)); have n1_ := Aside0.mk (hb); have n2_ := Aside0.mk (hi); clear HO_7; clear HB; clear HI305; have HO_7 := n0_; have HB := n1_; have HI305 := n2_; clear n0_ n1_ n2_; (try clear hb); (try clear hb2); (try clear hk); (try clear hi)) | ((with_reducible refine gate_callee (f := 82) rfl ?_); refine goesL_ (some 32) rfl rfl Try.func82 (by kernel_rfl) rfl #[.pointer (some ⟨g305, 0, none⟩)] rfl (by (try simp only [List.map_toArray, List.map_cons, List.map_nil]); first | done | rfl | (simp only [List.length_drop, List.length_take]; rfl)) ?_; (with_reducible refine (pack_Reader_Err.calls g305 t317 t318 t319 t320 t321 w _ ?side1 ?side2 A11.out).mono ?_); (case side1 => repeat (first | (with_reducible first | exact HI305.out | apply IsS120.alloc | apply IsS120.drewN | apply IsS120.drew | apply IsS120.set_0 | apply IsS120.set_1) | exact HI305.out)); (case side2 => repeat (first | (with_reducible first | exact HB.out | apply below_alloc | apply pw_below_drewN | apply below_drew1 | refine below_set ?_ (IsS120.ge HI305.out)) | exact HB.out)); rintro e w23 ⟨rfl, hi, hb, hk⟩; refine ⟨_, rfl, ?_⟩; have n0_ := Aside0.mk (Kd.R_mono (Kd.R_keep (IsS120.apart (show IsS120 w _ g305 t317 t318 from by repeat (first | (with_reducible first | exact HI305.out | apply IsS120.alloc | apply IsS120.drewN | apply IsS120.drew | apply IsS120.set_0 | apply IsS120.set_1) | exact HI305.out)) (by (with_reducible repeat (first | apply Kd.R_alloc | apply Kd.R_drewN | apply Kd.R_drew)); exact HO_7.out) (by decide)) hk (fun _ h => h.2)) (fun _ h => h.1)); have n1_ := Aside0.mk (hb); have n2_ := Aside0.mk (hi); clear HO_7; clear HB; clear HI305; have HO_7 := n0_; have HB := n1_; have HI305 := n2_; clear n0_ n1_ n2_; (try clear hb); (try clear hb2); (try clear hk); (try clear hi); obtain ⟨Ao24, co24, eo24⟩ := Kd.R_slice HO_7.out; subst eo24))
                  go_ret2
                  exact ⟨_, by first | rfl | (simp [errW_none, errW_some] <;> rfl) | (simp [*, errW_none, errW_some] <;> rfl), by first | exact Kd.R_nil _ _ _ _ _ | exact Kd.N_nil _ _ _ _ _ | exact Kd.V_nil _ _ _ _ _ | exact Kd.Q_nil _ _ _ _ _ | exact Kd.S_nil _ _ _ _ _, by repeat (first | (with_reducible first | exact HB.out | apply below_alloc | apply pw_below_drewN | apply below_drew1 | refine below_set ?_ (IsS120.ge HI305.out)) | exact HB.out)⟩
                · rw [if_neg c19] at H
                  have c19b0 : decide ((IntKind.u64.wrap (x8_1)) < t316) = false := decide_eq_false c19
                  clear c19
                  by_cases c25 : (wrap64 ((x7_1.length : Int) - 1)) ≥ 0
                  · rw [if_pos c25] at H
                    have c25b0 : decide (0 ≤ (wrap64 ((x7_1.length : Int) - 1))) = true := decide_eq_true c25
                    clear c25
                    obtain ⟨ji26, hji26⟩ : ∃ j_ : Int, (wrap64 ((x7_1.length : Int) - 1)) = j_ := ⟨_, rfl⟩
                    replace H : (if 0 ≤ (ji26) then (if (ji26) < (x7_1.length : Int) then (if ((rd_T53 x7_1 (ji26)).f0) = t313 then (some (([] : List Int), 5)) else (if x7_1.length < 8796093022208 then (runs_Decode.l0 k1 a1 (x7_1 ++ [(⟨t313, wrap64 (t316)⟩ : S53)]) (wrap64 (x8_1 - (wrap64 (t316)))) t320 t321) else (none))) else (none)) else (none)) = some (r1, r2) := by first | (rw [hji26] at H; exact H) | (simp only [hji26] at H ⊢; exact H)
                    (try rw [hji26] at c25b0)
                    (try rw [hji26] at A7)
                    (try rw [hji26] at A9)
                    (try rw [hji26] at A10)
                    (try rw [hji26] at A11)
                    have hji26w : (IntKind.i64.wrap ((x7_1.length : Int) - 1)) = ji26 := (i64_w _).trans hji26
                    by_cases c27 : 0 ≤ (ji26)
                    · rw [if_pos c27] at H
                      have c27b0 : decide (0 ≤ (ji26)) = true := decide_eq_true c27
                      clear c27
                      by_cases c28 : (ji26) < (x7_1.length : Int)
                      · rw [if_pos c28] at H
                        have c28b0 : decide ((ji26) < (x7_1.length : Int)) = true := decide_eq_true c28
                        clear c28
                        by_cases c29 : ((rd_T53 x7_1 (ji26)).f0) = t313
                        · rw [if_pos c29] at H
                          have c29b0 : (((rd_T53 x7_1 (ji26)).f0) == t313) = true := beq_iff_eq.mpr c29
                          have c29b1 : (((rd_T53 x7_1 (ji26)).f0) != t313) = false := bne_eq_false_iff_eq.mpr c29
                          clear c29
                          simp only [Option.some.injEq, Prod.mk.injEq] at H
                          obtain ⟨rfl, rfl⟩ := H
                          go_wp2_with (first | ((with_reducible refine gate_callee (f := 83) rfl ?_); refine goesL_ (some 25) rfl rfl Try.func83 (by kernel_rfl) rfl #[.pointer (some ⟨g305, 0, none⟩)] rfl (by (try simp only [List.map_toArray, List.map_cons, List.map_nil]); first | done | rfl | (simp only [List.length_drop, List.length_take]; rfl)) ?_; (with_reducible refine (pack_Reader_Left.calls g305 x306000_1 x306001_1 t306 t307 t308 w _ ?side1 ?side2 A7.out).mono ?_); (case side1 => repeat (first | (with_reducible first | exact HI305.out | apply IsS120.alloc | apply IsS120.drewN | apply IsS120.drew | apply IsS120.set_0 | apply IsS120.set_1) | exact HI305.out)); (case side2 => repeat (first | (with_reducible first | exact HB.out | apply below_alloc | apply pw_below_drewN | apply below_drew1 | refine below_set ?_ (IsS120.ge HI305.out)) | exact HB.out)); rintro e w30 ⟨rfl, hi, hb, hk⟩; refine ⟨_, rfl, ?_⟩; have n0_ := Aside0.mk (Kd.R_mono (Kd.R_keep (IsS120.apart (show IsS120 w _ g305 x306000_1 x306001_1 from by repeat (first | (with_reducible first | exact HI305.out | apply IsS120.alloc | apply IsS120.drewN | apply IsS120.drew | apply IsS120.set_0 | apply IsS120.set_1) | exact HI305.out)) (by (with_reducible repeat (first | apply Kd.R_alloc | apply Kd.R_drewN | apply Kd.R_drew)); exact HO_7.out) (by decide)) hk (fun _ h => h.2)) (fun _ h => h.1)); have n1_ := Aside0.mk (hb); have n2_ := Aside0.mk (hi); clear HO_7; clear HB; clear HI305; have HO_7 := n0_; have HB := n1_; have HI305 := n2_; clear n0_ n1_ n2_; (try clear hb); (try clear hb2); (try clear hk); (try clear hi)) | ((with_reducible refine gate_callee (f := 81) rfl ?_); refine goesL_ (some 28) rfl rfl Try.func81 (by kernel_rfl) rfl #[.pointer (some ⟨g305, 0, none⟩)] rfl (by (try simp only [List.map_toArray, List.map_cons, List.map_nil]); first | done | rfl | (simp only [List.length_drop, List.length_take]; rfl)) ?_; (with_reducible refine (pack_Reader_Num.calls g305 t307 t308 t313 t314 t315 w _ ?side1 ?side2 A9.out).mono ?_); (case side1 => repeat (first | (with_reducible first | exact HI305.out | apply IsS120.alloc | apply IsS120.drewN | apply IsS120.drew | apply IsS120.set_0 | apply IsS120.set_1) | exact HI305.out)); (case side2 => repeat (first | (with_reducible first | exact HB.out | apply below_alloc | apply pw_below_drewN | apply below_drew1 | refine below_set ?_ (IsS120.ge HI305.out)) | exact HB.out)); rintro e w31 ⟨rfl, hi, hb, hk⟩; refine ⟨_, rfl, ?_⟩; have n0_ := Aside0.mk (Kd.R_mono (Kd.R_keep (IsS120.apart (show IsS120 w _ g305 t307 t308 from by repeat (first | (with_reducible first | exact HI305.out | apply IsS120.alloc | apply IsS120.drewN | apply IsS120.drew | apply IsS120.set_0 | apply IsS120.set_1) | exact HI305.out)) (by (with_reducible repeat (first | apply Kd.R_alloc | apply Kd.R_drewN | apply Kd.R_drew)); exact HO_7.out) (by decide)) hk (fun _ h => h.2)) (fun _ h => h.1)); have n1_ := Aside0.mk (hb); have n2_ := Aside0.mk (hi); clear HO_7; clear HB; clear HI305; have HO_7 := n0_; have HB := n1_; have HI305 := n2_; clear n0_ n1_ n2_; (try clear hb); (try clear hb2); (try clear hk); (try clear hi)) | ((with_reducible refine gate_callee (f := 81) rfl ?_); refine goesL_ (some 30) rfl rfl Try.func81 (by kernel_rfl) rfl #[.pointer (some ⟨g305, 0, none⟩)] rfl (by (try simp only [List.map_toArray, List.map_cons, List.map_nil]); first | done | rfl | (simp only [List.length_drop, List.length_take]; rfl)) ?_; (with_reducible refine (pack_Reader_Num.calls g305 t314 t315 t316 t317 t318 w _ ?side1 ?side2 A10.out).mono ?_); (case side1 => repeat (first | (with_reducible first | exact HI305.out | apply IsS120.alloc | apply IsS120.drewN | apply IsS120.drew | apply IsS120.set_0 | apply IsS120.set_1) | exact HI305.out)); (case side2 => repeat (first | (with_reducible first | exact HB.out | apply below_alloc | apply pw_below_drewN | apply below_drew1 | refine below_set ?_ (IsS120.ge HI305.out)) | exact HB.out)); rintro e w32 ⟨rfl, hi, hb, hk⟩; refine ⟨_, rfl, ?_⟩; have n0_ := Aside0.mk (Kd.R_mono (Kd.R_keep (IsS120.apart (show IsS120 w _ g305 t314 t315 from by repeat (first | (with_reducible first | exact HI305.out | apply IsS120.alloc | apply IsS120.drewN | apply IsS120.drew | apply IsS120.set_0 | apply IsS120.set_1) | exact HI305.out)) (by (with_reducible repeat (first | apply Kd.R_alloc | apply Kd.R_drewN | apply Kd.R_drew)); exact HO_7.out) (by decide)) hk (fun _ h => h.2)) (fun _ h => h.1)); have n1_ := Aside0.mk (hb); have n2_ := Aside0.mk (hi); clear HO_7; clear HB; clear HI305; have HO_7 := n0_; have HB := n1_; have HI305 := n2_; clear n0_ n1_ n2_; (try clear hb); (try clear hb2); (try clear hk); (try clear hi)) | ((with_reducible refine gate_callee (f := 82) rfl ?_); refine goesL_ (some 32) rfl rfl Try.func82 (by kernel_rfl) rfl #[.pointer (some ⟨g305, 0, none⟩)] rfl (by (try simp only [List.map_toArray, List.map_cons, List.map_nil]); first | done | rfl | (simp only [List.length_drop, List.length_take]; rfl)) ?_; (with_reducible refine (pack_Reader_Err.calls g305 t317 t318 t319 t320 t321 w _ ?side1 ?side2 A11.out).mono ?_); (case side1 => repeat (first | (with_reducible first | exact HI305.out | apply IsS120.alloc | apply IsS120.drewN | apply IsS120.drew | apply IsS120.set_0 | apply IsS120.set_1) | exact HI305.out)); (case side2 => repeat (first | (with_reducible first | exact HB.out | apply below_alloc | apply pw_below_drewN | apply below_drew1 | refine below_set ?_ (IsS120.ge HI305.out)) | exact HB.out)); rintro e w33 ⟨rfl, hi, hb, hk⟩; refine ⟨_, rfl, ?_⟩; have n0_ := Aside0.mk (Kd.R_mono (Kd.R_keep (IsS120.apart (show IsS120 w _ g305 t317 t318 from by repeat (first | (with_reducible first | exact HI305.out | apply IsS120.alloc | apply IsS120.drewN | apply IsS120.drew | apply IsS120.set_0 | apply IsS120.set_1) | exact HI305.out)) (by (with_reducible repeat (first | apply Kd.R_alloc | apply Kd.R_drewN | apply Kd.R_drew)); exact HO_7.out) (by decide)) hk (fun _ h => h.2)) (fun _ h => h.1)); have n1_ := Aside0.mk (hb); have n2_ := Aside0.mk (hi); clear HO_7; clear HB; clear HI305; have HO_7 := n0_; have HB := n1_; have HI305 := n2_; clear n0_ n1_ n2_; (try clear hb); (try clear hb2); (try clear hk); (try clear hi); obtain ⟨Ao34, co34, eo34⟩ := Kd.R_slice HO_7.out; subst eo34; have p322 : 0 ≤ ((ji26) : Int) := of_decide_eq_true (by first | (with_reducible assumption) | assumption); have q322 : (ji26) < (x7_1.length : Int) := of_decide_eq_true (by first | (with_reducible assumption) | assumption); obtain ⟨ad322, e322, hx322_0, hx322_1⟩ := at_T53 (Kd.R_reads' HO_7.out).2.2 (ji26) p322 q322; cases e322; replace p322 := eq_true p322; replace q322 := eq_true q322))
                          go_ret2
                          (try simp only [hji26])
                          exact ⟨_, by first | rfl | (simp [errW_none, errW_some] <;> rfl) | (simp only [← hji26]; first | rfl | (simp [errW_none, errW_some] <;> rfl)) | (simp [*, errW_none, errW_some] <;> rfl), by first | exact Kd.R_nil _ _ _ _ _ | exact Kd.N_nil _ _ _ _ _ | exact Kd.V_nil _ _ _ _ _ | exact Kd.Q_nil _ _ _ _ _ | exact Kd.S_nil _ _ _ _ _, by repeat (first | (with_reducible first | exact HB.out | apply below_alloc | apply pw_below_drewN | apply below_drew1 | refine below_set ?_ (IsS120.ge HI305.out)) | exact HB.out)⟩
                        · rw [if_neg c29] at H
                          have c29b0 : (((rd_T53 x7_1 (ji26)).f0) == t313) = false := beq_eq_false_iff_ne.mpr c29
                          have c29b1 : (((rd_T53 x7_1 (ji26)).f0) != t313) = true := bne_iff_ne.mpr c29
                          by_cases c35 : x7_1.length < 8796093022208
                          · rw [if_pos c35] at H
                            have LMc35 := Aside0.mk c35
                            clear c35
                            obtain ⟨y323, hy323⟩ : ∃ y_ : List (S53), y_ = (x7_1 ++ [(⟨t313, wrap64 (t316)⟩ : S53)]) := ⟨_, rfl⟩
                            replace H : (runs_Decode.l0 k1 a1 y323 (wrap64 (x8_1 - (wrap64 (t316)))) t320 t321) = some (r1, r2) := by first | (rw [hy323]; with_reducible exact H) | (have H2_ := (Option.bind_some _ _).symm.trans H; rw [hy323]; with_reducible exact H2_) | (have H2_ := (Option.bind_some _ _).symm.trans H; with_reducible exact H2_) | with_reducible exact H | (rw [hy323]; exact H) | exact H
                            have Ny323 := Aside0.mk hy323
                            clear hy323
                            have H' := Aside0.mk H
                            clear H
                            go_wp2_with (first | ((with_reducible refine gate_callee (f := 83) rfl ?_); refine goesL_ (some 25) rfl rfl Try.func83 (by kernel_rfl) rfl #[.pointer (some ⟨g305, 0, none⟩)] rfl (by (try simp only [List.map_toArray, List.map_cons, List.map_nil]); first | done | rfl | (simp only [List.length_drop, List.length_take]; rfl)) ?_; (with_reducible refine (pack_Reader_Left.calls g305 x306000_1 x306001_1 t306 t307 t308 w _ ?side1 ?side2 A7.out).mono ?_); (case side1 => repeat (first | (with_reducible first | exact HI305.out | apply IsS120.alloc | apply IsS120.drewN | apply IsS120.drew | apply IsS120.set_0 | apply IsS120.set_1) | exact HI305.out)); (case side2 => repeat (first | (with_reducible first | exact HB.out | apply below_alloc | apply pw_below_drewN | apply below_drew1 | refine below_set ?_ (IsS120.ge HI305.out)) | exact HB.out)); rintro e w36 ⟨rfl, hi, hb, hk⟩; refine ⟨_, rfl, ?_⟩; have n0_ := Aside0.mk (Kd.R_mono (Kd.R_keep (IsS120.apart (show IsS120 w _ g305 x306000_1 x306001_1 from by repeat (first | (with_reducible first | exact HI305.out | apply IsS120.alloc | apply IsS120.drewN | apply IsS120.drew | apply IsS120.set_0 | apply IsS120.set_1) | exact HI305.out)) (by (with_reducible repeat (first | apply Kd.R_alloc | apply Kd.R_drewN | apply Kd.R_drew)); exact HO_7.out) (by decide)) hk (fun _ h => h.2)) (fun _ h => h.1)); have n1_ := Aside0.mk (hb); have n2_ := Aside0.mk (hi); clear HO_7; clear HB; clear HI305; have HO_7 := n0_; have HB := n1_; have HI305 := n2_; clear n0_ n1_ n2_; (try clear hb); (try clear hb2); (try clear hk); (try clear hi)) | ((with_reducible refine gate_callee (f := 81) rfl ?_); refine goesL_ (some 28) rfl rfl Try.func81 (by kernel_rfl) rfl #[.pointer (some ⟨g305, 0, none⟩)] rfl (by (try simp only [List.map_toArray, List.map_cons, List.map_nil]); first | done | rfl | (simp only [List.length_drop, List.length_take]; rfl)) ?_; (with_reducible refine (pack_Reader_Num.calls g305 t307 t308 t313 t314 t315 w _ ?side1 ?side2 A9.out).mono ?_); (case side1 => repeat (first | (with_reducible first | exact HI305.out | apply IsS120.alloc | apply IsS120.drewN | apply IsS120.drew | apply IsS120.set_0 | apply IsS120.set_1) | exact HI305.out)); (case side2 => repeat (first | (with_reducible first | exact HB.out | apply below_alloc | apply pw_below_drewN | apply below_drew1 | refine below_set ?_ (IsS120.ge HI305.out)) | exact HB.out)); rintro e w37 ⟨rfl, hi, hb, hk⟩; refine ⟨_, rfl, ?_⟩; have n0_ := Aside0.mk (Kd.R_mono (Kd.R_keep (IsS120.apart (show IsS120 w _ g305 t307 t308 from by repeat (first | (with_reducible first | exact HI305.out | apply IsS120.alloc | apply IsS120.drewN | apply IsS120.drew | apply IsS120.set_0 | apply IsS120.set_1) | exact HI305.out)) (by (with_reducible repeat (first | apply Kd.R_alloc | apply Kd.R_drewN | apply Kd.R_drew)); exact HO_7.out) (by decide)) hk (fun _ h => h.2)) (fun _ h => h.1)); have n1_ := Aside0.mk (hb); have n2_ := Aside0.mk (hi); clear HO_7; clear HB; clear HI305; have HO_7 := n0_; have HB := n1_; have HI305 := n2_; clear n0_ n1_ n2_; (try clear hb); (try clear hb2); (try clear hk); (try clear hi)) | ((with_reducible refine gate_callee (f := 81) rfl ?_); refine goesL_ (some 30) rfl rfl Try.func81 (by kernel_rfl) rfl #[.pointer (some ⟨g305, 0, none⟩)] rfl (by (try simp only [List.map_toArray, List.map_cons, List.map_nil]); first | done | rfl | (simp only [List.length_drop, List.length_take]; rfl)) ?_; (with_reducible refine (pack_Reader_Num.calls g305 t314 t315 t316 t317 t318 w _ ?side1 ?side2 A10.out).mono ?_); (case side1 => repeat (first | (with_reducible first | exact HI305.out | apply IsS120.alloc | apply IsS120.drewN | apply IsS120.drew | apply IsS120.set_0 | apply IsS120.set_1) | exact HI305.out)); (case side2 => repeat (first | (with_reducible first | exact HB.out | apply below_alloc | apply pw_below_drewN | apply below_drew1 | refine below_set ?_ (IsS120.ge HI305.out)) | exact HB.out)); rintro e w38 ⟨rfl, hi, hb, hk⟩; refine ⟨_, rfl, ?_⟩; have n0_ := Aside0.mk (Kd.R_mono (Kd.R_keep (IsS120.apart (show IsS120 w _ g305 t314 t315 from by repeat (first | (with_reducible first | exact HI305.out | apply IsS120.alloc | apply IsS120.drewN | apply IsS120.drew | apply IsS120.set_0 | apply IsS120.set_1) | exact HI305.out)) (by (with_reducible repeat (first | apply Kd.R_alloc | apply Kd.R_drewN | apply Kd.R_drew)); exact HO_7.out) (by decide)) hk (fun _ h => h.2)) (fun _ h => h.1)); have n1_ := Aside0.mk (hb); have n2_ := Aside0.mk (hi); clear HO_7; clear HB; clear HI305; have HO_7 := n0_; have HB := n1_; have HI305 := n2_; clear n0_ n1_ n2_; (try clear hb); (try clear hb2); (try clear hk); (try clear hi)) | ((with_reducible refine gate_callee (f := 82) rfl ?_); refine goesL_ (some 32) rfl rfl Try.func82 (by kernel_rfl) rfl #[.pointer (some ⟨g305, 0, none⟩)] rfl (by (try simp only [List.map_toArray, List.map_cons, List.map_nil]); first | done | rfl | (simp only [List.length_drop, List.length_take]; rfl)) ?_; (with_reducible refine (pack_Reader_Err.calls g305 t317 t318 t319 t320 t321 w _ ?side1 ?side2 A11.out).mono ?_); (case side1 => repeat (first | (with_reducible first | exact HI305.out | apply IsS120.alloc | apply IsS120.drewN | apply IsS120.drew | apply IsS120.set_0 | apply IsS120.set_1) | exact HI305.out)); (case side2 => repeat (first | (with_reducible first | exact HB.out | apply below_alloc | apply pw_below_drewN | apply below_drew1 | refine below_set ?_ (IsS120.ge HI305.out)) | exact HB.out)); rintro e w39 ⟨rfl, hi, hb, hk⟩; refine ⟨_, rfl, ?_⟩; have n0_ := Aside0.mk (Kd.R_mono (Kd.R_keep (IsS120.apart (show IsS120 w _ g305 t317 t318 from by repeat (first | (with_reducible first | exact HI305.out | apply IsS120.alloc | apply IsS120.drewN | apply IsS120.drew | apply IsS120.set_0 | apply IsS120.set_1) | exact HI305.out)) (by (with_reducible repeat (first | apply Kd.R_alloc | apply Kd.R_drewN | apply Kd.R_drew)); exact HO_7.out) (by decide)) hk (fun _ h => h.2)) (fun _ h => h.1)); have n1_ := Aside0.mk (hb); have n2_ := Aside0.mk (hi); clear HO_7; clear HB; clear HI305; have HO_7 := n0_; have HB := n1_; have HI305 := n2_; clear n0_ n1_ n2_; (try clear hb); (try clear hb2); (try clear hk); (try clear hi); obtain ⟨Ao40, co40, eo40⟩ := Kd.R_slice HO_7.out; subst eo40; have p322 : 0 ≤ ((ji26) : Int) := of_decide_eq_true (by first | (with_reducible assumption) | assumption); have q322 : (ji26) < (x7_1.length : Int) := of_decide_eq_true (by first | (with_reducible assumption) | assumption); obtain ⟨ad322, e322, hx322_0, hx322_1⟩ := at_T53 (Kd.R_reads' HO_7.out).2.2 (ji26) p322 q322; cases e322; replace p322 := eq_true p322; replace q322 := eq_true q322) | ((with_reducible refine gate_builtin (b := .append) (xs := #[.tmp 64, .tmp 69]) rfl ?_); at_builtin; refine Kd.R_append k53 (w0 := w) w.heap.size rfl (.tmp 64) (.tmp 69) 39 53 (.agg #[(.int .u64 0), (.int .i64 0)]) 16 rfl Try.underlying39 info53 rfl (by decide) (by omega) (.slice (some ad322) x7_1.length co40) x7_1 (⟨t313, wrap64 (t316)⟩ : S53) [.int .u64 t313, .int .i64 (wrap64 (t316))] (fun _ => True) (fun _ => False) rfl rfl ?aP (fun _ hk => hk.elim) ?aF ?aO ?aB ?aS ?aL ?_; (case aP => exact k53_mkM _ _ _ (⟨t313, wrap64 (t316)⟩ : S53)); (case aB => exact (by repeat (first | (with_reducible first | exact HB.out | apply below_alloc | apply pw_below_drewN | apply below_drew1 | refine below_set ?_ (IsS120.ge HI305.out)) | exact HB.out))); (case aF => exact (fun _ _ => trivial)); (case aO => exact (by (with_reducible repeat (first | apply Kd.R_alloc | apply Kd.R_drewN | apply Kd.R_drew)); exact HO_7.out)); (case aS => exact (below_size (by repeat (first | (with_reducible first | exact HB.out | apply below_alloc | apply pw_below_drewN | apply below_drew1 | refine below_set ?_ (IsS120.ge HI305.out)) | exact HB.out)))); (case aL => have := LMc35.out; omega); intro v324 w41 ho hb hg hat; rw [← Ny323.out] at ho; have n0_ := Aside0.mk (IsS120.grown (by repeat (first | (with_reducible first | exact HI305.out | apply IsS120.alloc | apply IsS120.drewN | apply IsS120.drew | apply IsS120.set_0 | apply IsS120.set_1) | exact HI305.out)) hg (IsS120.own_ne HI305.out HO_7.out (by decide))); have n1_ := Aside0.mk (hb); have n2_ := Aside0.mk (ho); clear HI305; clear HB; clear HO_7; have HI305 := n0_; have HB := n1_; have HO325 := n2_; clear n0_ n1_ n2_; clear ho hb hg hat))
                            go_roundg k1
                            case measure => have := HK1.out; omega
                            case rel => exact ⟨(y323), (wrap64 (x8_1 - (wrap64 (t316)))), (t320), (t321), (by first | rfl | (simp; done) | (simp [*]; done)), H', ⟨by have := HK1.out; omega⟩, ⟨by (with_reducible repeat (first | apply Kd.R_alloc | apply Kd.R_drewN | apply Kd.R_drew)); exact HO325.out⟩, ⟨by repeat (first | (with_reducible first | exact HI305.out | apply IsS120.alloc | apply IsS120.drewN | apply IsS120.drew | apply IsS120.set_0 | apply IsS120.set_1) | exact HI305.out)⟩, ⟨by repeat (first | (with_reducible first | exact HB.out | apply below_alloc | apply pw_below_drewN | apply below_drew1 | refine below_set ?_ (IsS120.ge HI305.out)) | exact HB.out)⟩⟩
                          · rw [if_neg c35] at H
                            exact absurd H (by simp)
                      · rw [if_neg c28] at H
                        exact absurd H (by simp)
                    · rw [if_neg c27] at H
                      exact absurd H (by simp)
                  · rw [if_neg c25] at H
                    have c25b0 : decide (0 ≤ (wrap64 ((x7_1.length : Int) - 1))) = false := decide_eq_false c25
                    clear c25
                    by_cases c42 : x7_1.length < 8796093022208
                    · rw [if_pos c42] at H
                      have LMc42 := Aside0.mk c42
                      clear c42
                      obtain ⟨y326, hy326⟩ : ∃ y_ : List (S53), y_ = (x7_1 ++ [(⟨t313, wrap64 (t316)⟩ : S53)]) := ⟨_, rfl⟩
                      replace H : (runs_Decode.l0 k1 a1 y326 (wrap64 (x8_1 - (wrap64 (t316)))) t320 t321) = some (r1, r2) := by first | (rw [hy326]; with_reducible exact H) | (have H2_ := (Option.bind_some _ _).symm.trans H; rw [hy326]; with_reducible exact H2_) | (have H2_ := (Option.bind_some _ _).symm.trans H; with_reducible exact H2_) | with_reducible exact H | (rw [hy326]; exact H) | exact H
                      have Ny326 := Aside0.mk hy326
                      clear hy326
                      have H' := Aside0.mk H
                      clear H
                      go_wp2_with (first | ((with_reducible refine gate_callee (f := 83) rfl ?_); refine goesL_ (some 25) rfl rfl Try.func83 (by kernel_rfl) rfl #[.pointer (some ⟨g305, 0, none⟩)] rfl (by (try simp only [List.map_toArray, List.map_cons, List.map_nil]); first | done | rfl | (simp only [List.length_drop, List.length_take]; rfl)) ?_; (with_reducible refine (pack_Reader_Left.calls g305 x306000_1 x306001_1 t306 t307 t308 w _ ?side1 ?side2 A7.out).mono ?_); (case side1 => repeat (first | (with_reducible first | exact HI305.out | apply IsS120.alloc | apply IsS120.drewN | apply IsS120.drew | apply IsS120.set_0 | apply IsS120.set_1) | exact HI305.out)); (case side2 => repeat (first | (with_reducible first | exact HB.out | apply below_alloc | apply pw_below_drewN | apply below_drew1 | refine below_set ?_ (IsS120.ge HI305.out)) | exact HB.out)); rintro e w43 ⟨rfl, hi, hb, hk⟩; refine ⟨_, rfl, ?_⟩; have n0_ := Aside0.mk (Kd.R_mono (Kd.R_keep (IsS120.apart (show IsS120 w _ g305 x306000_1 x306001_1 from by repeat (first | (with_reducible first | exact HI305.out | apply IsS120.alloc | apply IsS120.drewN | apply IsS120.drew | apply IsS120.set_0 | apply IsS120.set_1) | exact HI305.out)) (by (with_reducible repeat (first | apply Kd.R_alloc | apply Kd.R_drewN | apply Kd.R_drew)); exact HO_7.out) (by decide)) hk (fun _ h => h.2)) (fun _ h => h.1)); have n1_ := Aside0.mk (hb); have n2_ := Aside0.mk (hi); clear HO_7; clear HB; clear HI305; have HO_7 := n0_; have HB := n1_; have HI305 := n2_; clear n0_ n1_ n2_; (try clear hb); (try clear hb2); (try clear hk); (try clear hi)) | ((with_reducible refine gate_callee (f := 81) rfl ?_); refine goesL_ (some 28) rfl rfl Try.func81 (by kernel_rfl) rfl #[.pointer (some ⟨g305, 0, none⟩)] rfl (by (try simp only [List.map_toArray, List.map_cons, List.map_nil]); first | done | rfl | (simp only [List.length_drop, List.length_take]; rfl)) ?_; (with_reducible refine (pack_Reader_Num.calls g305 t307 t308 t313 t314 t315 w _ ?side1 ?side2 A9.out).mono ?_); (case side1 => repeat (first | (with_reducible first | exact HI305.out | apply IsS120.alloc | apply IsS120.drewN | apply IsS120.drew | apply IsS120.set_0 | apply IsS120.set_1) | exact HI305.out)); (case side2 => repeat (first | (with_reducible first | exact HB.out | apply below_alloc | apply pw_below_drewN | apply below_drew1 | refine below_set ?_ (IsS120.ge HI305.out)) | exact HB.out)); rintro e w44 ⟨rfl, hi, hb, hk⟩; refine ⟨_, rfl, ?_⟩; have n0_ := Aside0.mk (Kd.R_mono (Kd.R_keep (IsS120.apart (show IsS120 w _ g305 t307 t308 from by repeat (first | (with_reducible first | exact HI305.out | apply IsS120.alloc | apply IsS120.drewN | apply IsS120.drew | apply IsS120.set_0 | apply IsS120.set_1) | exact HI305.out)) (by (with_reducible repeat (first | apply Kd.R_alloc | apply Kd.R_drewN | apply Kd.R_drew)); exact HO_7.out) (by decide)) hk (fun _ h => h.2)) (fun _ h => h.1)); have n1_ := Aside0.mk (hb); have n2_ := Aside0.mk (hi); clear HO_7; clear HB; clear HI305; have HO_7 := n0_; have HB := n1_; have HI305 := n2_; clear n0_ n1_ n2_; (try clear hb); (try clear hb2); (try clear hk); (try clear hi)) | ((with_reducible refine gate_callee (f := 81) rfl ?_); refine goesL_ (some 30) rfl rfl Try.func81 (by kernel_rfl) rfl #[.pointer (some ⟨g305, 0, none⟩)] rfl (by (try simp only [List.map_toArray, List.map_cons, List.map_nil]); first | done | rfl | (simp only [List.length_drop, List.length_take]; rfl)) ?_; (with_reducible refine (pack_Reader_Num.calls g305 t314 t315 t316 t317 t318 w _ ?side1 ?side2 A10.out).mono ?_); (case side1 => repeat (first | (with_reducible first | exact HI305.out | apply IsS120.alloc | apply IsS120.drewN | apply IsS120.drew | apply IsS120.set_0 | apply IsS120.set_1) | exact HI305.out)); (case side2 => repeat (first | (with_reducible first | exact HB.out | apply below_alloc | apply pw_below_drewN | apply below_drew1 | refine below_set ?_ (IsS120.ge HI305.out)) | exact HB.out)); rintro e w45 ⟨rfl, hi, hb, hk⟩; refine ⟨_, rfl, ?_⟩; have n0_ := Aside0.mk (Kd.R_mono (Kd.R_keep (IsS120.apart (show IsS120 w _ g305 t314 t315 from by repeat (first | (with_reducible first | exact HI305.out | apply IsS120.alloc | apply IsS120.drewN | apply IsS120.drew | apply IsS120.set_0 | apply IsS120.set_1) | exact HI305.out)) (by (with_reducible repeat (first | apply Kd.R_alloc | apply Kd.R_drewN | apply Kd.R_drew)); exact HO_7.out) (by decide)) hk (fun _ h => h.2)) (fun _ h => h.1)); have n1_ := Aside0.mk (hb); have n2_ := Aside0.mk (hi); clear HO_7; clear HB; clear HI305; have HO_7 := n0_; have HB := n1_; have HI305 := n2_; clear n0_ n1_ n2_; (try clear hb); (try clear hb2); (try clear hk); (try clear hi)) | ((with_reducible refine gate_callee (f := 82) rfl ?_); refine goesL_ (some 32) rfl rfl Try.func82 (by kernel_rfl) rfl #[.pointer (some ⟨g305, 0, none⟩)] rfl (by (try simp only [List.map_toArray, List.map_cons, List.map_nil]); first | done | rfl | (simp only [List.length_drop, List.length_take]; rfl)) ?_; (with_reducible refine (pack_Reader_Err.calls g305 t317 t318 t319 t320 t321 w _ ?side1 ?side2 A11.out).mono ?_); (case side1 => repeat (first | (with_reducible first | exact HI305.out | apply IsS120.alloc | apply IsS120.drewN | apply IsS120.drew | apply IsS120.set_0 | apply IsS120.set_1) | exact HI305.out)); (case side2 => repeat (first | (with_reducible first | exact HB.out | apply below_alloc | apply pw_below_drewN | apply below_drew1 | refine below_set ?_ (IsS120.ge HI305.out)) | exact HB.out)); rintro e w46 ⟨rfl, hi, hb, hk⟩; refine ⟨_, rfl, ?_⟩; have n0_ := Aside0.mk (Kd.R_mono (Kd.R_keep (IsS120.apart (show IsS120 w _ g305 t317 t318 from by repeat (first | (with_reducible first | exact HI305.out | apply IsS120.alloc | apply IsS120.drewN | apply IsS120.drew | apply IsS120.set_0 | apply IsS120.set_1) | exact HI305.out)) (by (with_reducible repeat (first | apply Kd.R_alloc | apply Kd.R_drewN | apply Kd.R_drew)); exact HO_7.out) (by decide)) hk (fun _ h => h.2)) (fun _ h => h.1)); have n1_ := Aside0.mk (hb); have n2_ := Aside0.mk (hi); clear HO_7; clear HB; clear HI305; have HO_7 := n0_; have HB := n1_; have HI305 := n2_; clear n0_ n1_ n2_; (try clear hb); (try clear hb2); (try clear hk); (try clear hi); obtain ⟨Ao47, co47, eo47⟩ := Kd.R_slice HO_7.out; subst eo47) | ((with_reducible refine gate_builtin (b := .append) (xs := #[.tmp 64, .tmp 69]) rfl ?_); at_builtin; refine Kd.R_append k53 (w0 := w) w.heap.size rfl (.tmp 64) (.tmp 69) 39 53 (.agg #[(.int .u64 0), (.int .i64 0)]) 16 rfl Try.underlying39 info53 rfl (by decide) (by omega) (.slice Ao47 x7_1.length co47) x7_1 (⟨t313, wrap64 (t316)⟩ : S53) [.int .u64 t313, .int .i64 (wrap64 (t316))] (fun _ => True) (fun _ => False) rfl rfl ?aP (fun _ hk => hk.elim) ?aF ?aO ?aB ?aS ?aL ?_; (case aP => exact k53_mkM _ _ _ (⟨t313, wrap64 (t316)⟩ : S53)); (case aB => exact (by repeat (first | (with_reducible first | exact HB.out | apply below_alloc | apply pw_below_drewN | apply below_drew1 | refine below_set ?_ (IsS120.ge HI305.out)) | exact HB.out))); (case aF => exact (fun _ _ => trivial)); (case aO => exact (by (with_reducible repeat (first | apply Kd.R_alloc | apply Kd.R_drewN | apply Kd.R_drew)); exact HO_7.out)); (case aS => exact (below_size (by repeat (first | (with_reducible first | exact HB.out | apply below_alloc | apply pw_below_drewN | apply below_drew1 | refine below_set ?_ (IsS120.ge HI305.out)) | exact HB.out)))); (case aL => have := LMc42.out; omega); intro v327 w48 ho hb hg hat; rw [← Ny326.out] at ho; have n0_ := Aside0.mk (IsS120.grown (by repeat (first | (with_reducible first | exact HI305.out | apply IsS120.alloc | apply IsS120.drewN | apply IsS120.drew | apply IsS120.set_0 | apply IsS120.set_1) | exact HI305.out)) hg (IsS120.own_ne HI305.out HO_7.out (by decide))); have n1_ := Aside0.mk (hb); have n2_ := Aside0.mk (ho); clear HI305; clear HB; clear HO_7; have HI305 := n0_; have HB := n1_; have HO328 := n2_; clear n0_ n1_ n2_; clear ho hb hg hat))
                      go_roundg k1
                      case measure => have := HK1.out; omega
                      case rel => exact ⟨(y326), (wrap64 (x8_1 - (wrap64 (t316)))), (t320), (t321), (by first | rfl | (simp; done) | (simp [*]; done)), H', ⟨by have := HK1.out; omega⟩, ⟨by (with_reducible repeat (first | apply Kd.R_alloc | apply Kd.R_drewN | apply Kd.R_drew)); exact HO328.out⟩, ⟨by repeat (first | (with_reducible first | exact HI305.out | apply IsS120.alloc | apply IsS120.drewN | apply IsS120.drew | apply IsS120.set_0 | apply IsS120.set_1) | exact HI305.out)⟩, ⟨by repeat (first | (with_reducible first | exact HB.out | apply below_alloc | apply pw_below_drewN | apply below_drew1 | refine below_set ?_ (IsS120.ge HI305.out)) | exact HB.out)⟩⟩
                    · rw [if_neg c42] at H
                      exact absurd H (by simp)
            · rw [if_neg c12] at H
              have c12b0 : (t319 == 0) = false := beq_eq_false_iff_ne.mpr c12
              have c12b1 : (t319 != 0) = true := bne_iff_ne.mpr c12
              simp only [Option.some.injEq, Prod.mk.injEq] at H
              obtain ⟨rfl, rfl⟩ := H
              go_wp2_with (first | ((with_reducible refine gate_callee (f := 83) rfl ?_); refine goesL_ (some 25) rfl rfl Try.func83 (by kernel_rfl) rfl #[.pointer (some ⟨g305, 0, none⟩)] rfl (by (try simp only [List.map_toArray, List.map_cons, List.map_nil]); first | done | rfl | (simp only [List.length_drop, List.length_take]; rfl)) ?_; (with_reducible refine (pack_Reader_Left.calls g305 x306000_1 x306001_1 t306 t307 t308 w _ ?side1 ?side2 A7.out).mono ?_); (case side1 => repeat (first | (with_reducible first | exact HI305.out | apply IsS120.alloc | apply IsS120.drewN | apply IsS120.drew | apply IsS120.set_0 | apply IsS120.set_1) | exact HI305.out)); (case side2 => repeat (first | (with_reducible first | exact HB.out | apply below_alloc | apply pw_below_drewN | apply below_drew1 | refine below_set ?_ (IsS120.ge HI305.out)) | exact HB.out)); rintro e w49 ⟨rfl, hi, hb, hk⟩; refine ⟨_, rfl, ?_⟩; have n0_ := Aside0.mk (Kd.R_mono (Kd.R_keep (IsS120.apart (show IsS120 w _ g305 x306000_1 x306001_1 from by repeat (first | (with_reducible first | exact HI305.out | apply IsS120.alloc | apply IsS120.drewN | apply IsS120.drew | apply IsS120.set_0 | apply IsS120.set_1) | exact HI305.out)) (by (with_reducible repeat (first | apply Kd.R_alloc | apply Kd.R_drewN | apply Kd.R_drew)); exact HO_7.out) (by decide)) hk (fun _ h => h.2)) (fun _ h => h.1)); have n1_ := Aside0.mk (hb); have n2_ := Aside0.mk (hi); clear HO_7; clear HB; clear HI305; have HO_7 := n0_; have HB := n1_; have HI305 := n2_; clear n0_ n1_ n2_; (try clear hb); (try clear hb2); (try clear hk); (try clear hi)) | ((with_reducible refine gate_callee (f := 81) rfl ?_); refine goesL_ (some 28) rfl rfl Try.func81 (by kernel_rfl) rfl #[.pointer (some ⟨g305, 0, none⟩)] rfl (by (try simp only [List.map_toArray, List.map_cons, List.map_nil]); first | done | rfl | (simp only [List.length_drop, List.length_take]; rfl)) ?_; (with_reducible refine (pack_Reader_Num.calls g305 t307 t308 t313 t314 t315 w _ ?side1 ?side2 A9.out).mono ?_); (case side1 => repeat (first | (with_reducible first | exact HI305.out | apply IsS120.alloc | apply IsS120.drewN | apply IsS120.drew | apply IsS120.set_0 | apply IsS120.set_1) | exact HI305.out)); (case side2 => repeat (first | (with_reducible first | exact HB.out | apply below_alloc | apply pw_below_drewN | apply below_drew1 | refine below_set ?_ (IsS120.ge HI305.out)) | exact HB.out)); rintro e w50 ⟨rfl, hi, hb, hk⟩; refine ⟨_, rfl, ?_⟩; have n0_ := Aside0.mk (Kd.R_mono (Kd.R_keep (IsS120.apart (show IsS120 w _ g305 t307 t308 from by repeat (first | (with_reducible first | exact HI305.out | apply IsS120.alloc | apply IsS120.drewN | apply IsS120.drew | apply IsS120.set_0 | apply IsS120.set_1) | exact HI305.out)) (by (with_reducible repeat (first | apply Kd.R_alloc | apply Kd.R_drewN | apply Kd.R_drew)); exact HO_7.out) (by decide)) hk (fun _ h => h.2)) (fun _ h => h.1)); have n1_ := Aside0.mk (hb); have n2_ := Aside0.mk (hi); clear HO_7; clear HB; clear HI305; have HO_7 := n0_; have HB := n1_; have HI305 := n2_; clear n0_ n1_ n2_; (try clear hb); (try clear hb2); (try clear hk); (try clear hi)) | ((with_reducible refine gate_callee (f := 81) rfl ?_); refine goesL_ (some 30) rfl rfl Try.func81 (by kernel_rfl) rfl #[.pointer (some ⟨g305, 0, none⟩)] rfl (by (try simp only [List.map_toArray, List.map_cons, List.map_nil]); first | done | rfl | (simp only [List.length_drop, List.length_take]; rfl)) ?_; (with_reducible refine (pack_Reader_Num.calls g305 t314 t315 t316 t317 t318 w _ ?side1 ?side2 A10.out).mono ?_); (case side1 => repeat (first | (with_reducible first | exact HI305.out | apply IsS120.alloc | apply IsS120.drewN | apply IsS120.drew | apply IsS120.set_0 | apply IsS120.set_1) | exact HI305.out)); (case side2 => repeat (first | (with_reducible first | exact HB.out | apply below_alloc | apply pw_below_drewN | apply below_drew1 | refine below_set ?_ (IsS120.ge HI305.out)) | exact HB.out)); rintro e w51 ⟨rfl, hi, hb, hk⟩; refine ⟨_, rfl, ?_⟩; have n0_ := Aside0.mk (Kd.R_mono (Kd.R_keep (IsS120.apart (show IsS120 w _ g305 t314 t315 from by repeat (first | (with_reducible first | exact HI305.out | apply IsS120.alloc | apply IsS120.drewN | apply IsS120.drew | apply IsS120.set_0 | apply IsS120.set_1) | exact HI305.out)) (by (with_reducible repeat (first | apply Kd.R_alloc | apply Kd.R_drewN | apply Kd.R_drew)); exact HO_7.out) (by decide)) hk (fun _ h => h.2)) (fun _ h => h.1)); have n1_ := Aside0.mk (hb); have n2_ := Aside0.mk (hi); clear HO_7; clear HB; clear HI305; have HO_7 := n0_; have HB := n1_; have HI305 := n2_; clear n0_ n1_ n2_; (try clear hb); (try clear hb2); (try clear hk); (try clear hi)) | ((with_reducible refine gate_callee (f := 82) rfl ?_); refine goesL_ (some 32) rfl rfl Try.func82 (by kernel_rfl) rfl #[.pointer (some ⟨g305, 0, none⟩)] rfl (by (try simp only [List.map_toArray, List.map_cons, List.map_nil]); first | done | rfl | (simp only [List.length_drop, List.length_take]; rfl)) ?_; (with_reducible refine (pack_Reader_Err.calls g305 t317 t318 t319 t320 t321 w _ ?side1 ?side2 A11.out).mono ?_); (case side1 => repeat (first | (with_reducible first | exact HI305.out | apply IsS120.alloc | apply IsS120.drewN | apply IsS120.drew | apply IsS120.set_0 | apply IsS120.set_1) | exact HI305.out)); (case side2 => repeat (first | (with_reducible first | exact HB.out | apply below_alloc | apply pw_below_drewN | apply below_drew1 | refine below_set ?_ (IsS120.ge HI305.out)) | exact HB.out)); rintro e w52 ⟨rfl, hi, hb, hk⟩; refine ⟨_, rfl, ?_⟩; have n0_ := Aside0.mk (Kd.R_mono (Kd.R_keep (IsS120.apart (show IsS120 w _ g305 t317 t318 from by repeat (first | (with_reducible first | exact HI305.out | apply IsS120.alloc | apply IsS120.drewN | apply IsS120.drew | apply IsS120.set_0 | apply IsS120.set_1) | exact HI305.out)) (by (with_reducible repeat (first | apply Kd.R_alloc | apply Kd.R_drewN | apply Kd.R_drew)); exact HO_7.out) (by decide)) hk (fun _ h => h.2)) (fun _ h => h.1)); have n1_ := Aside0.mk (hb); have n2_ := Aside0.mk (hi); clear HO_7; clear HB; clear HI305; have HO_7 := n0_; have HB := n1_; have HI305 := n2_; clear n0_ n1_ n2_; (try clear hb); (try clear hb2); (try clear hk); (try clear hi)))
              go_ret2
              exact ⟨_, by first | rfl | (simp [errW_none, errW_some] <;> rfl) | (simp [*, errW_none, errW_some] <;> rfl), by first | exact Kd.R_nil _ _ _ _ _ | exact Kd.N_nil _ _ _ _ _ | exact Kd.V_nil _ _ _ _ _ | exact Kd.Q_nil _ _ _ _ _ | exact Kd.S_nil _ _ _ _ _, by repeat (first | (with_reducible first | exact HB.out | apply below_alloc | apply pw_below_drewN | apply below_drew1 | refine below_set ?_ (IsS120.ge HI305.out)) | exact HB.out)⟩
          · rw [if_neg c8] at H
            have c8b0 : decide (0 < t306) = false := decide_eq_false c8
            clear c8
            by_cases c53 : x8_1 > 0
            · rw [if_pos c53] at H
              have c53b0 : decide (0 < x8_1) = true := decide_eq_true c53
              clear c53
              simp only [Option.some.injEq, Prod.mk.injEq] at H
              obtain ⟨rfl, rfl⟩ := H
              go_wp2_with (first | ((with_reducible refine gate_callee (f := 83) rfl ?_); refine goesL_ (some 25) rfl rfl Try.func83 (by kernel_rfl) rfl #[.pointer (some ⟨g305, 0, none⟩)] rfl (by (try simp only [List.map_toArray, List.map_cons, List.map_nil]); first | done | rfl | (simp only [List.length_drop, List.length_take]; rfl)) ?_; (with_reducible refine (pack_Reader_Left.calls g305 x306000_1 x306001_1 t306 t307 t308 w _ ?side1 ?side2 A7.out).mono ?_); (case side1 => repeat (first | (with_reducible first | exact HI305.out | apply IsS120.alloc | apply IsS120.drewN | apply IsS120.drew | apply IsS120.set_0 | apply IsS120.set_1) | exact HI305.out)); (case side2 => repeat (first | (with_reducible first | exact HB.out | apply below_alloc | apply pw_below_drewN | apply below_drew1 | refine below_set ?_ (IsS120.ge HI305.out)) | exact HB.out)); rintro e w54 ⟨rfl, hi, hb, hk⟩; refine ⟨_, rfl, ?_⟩; have n0_ := Aside0.mk (Kd.R_mono (Kd.R_keep (IsS120.apart (show IsS120 w _ g305 x306000_1 x306001_1 from by repeat (first | (with_reducible first | exact HI305.out | apply IsS120.alloc | apply IsS120.drewN | apply IsS120.drew | apply IsS120.set_0 | apply IsS120.set_1) | exact HI305.out)) (by (with_reducible repeat (first | apply Kd.R_alloc | apply Kd.R_drewN | apply Kd.R_drew)); exact HO_7.out) (by decide)) hk (fun _ h => h.2)) (fun _ h => h.1)); have n1_ := Aside0.mk (hb); have n2_ := Aside0.mk (hi); clear HO_7; clear HB; clear HI305; have HO_7 := n0_; have HB := n1_; have HI305 := n2_; clear n0_ n1_ n2_; (try clear hb); (try clear hb2); (try clear hk); (try clear hi)))
              go_ret2
              exact ⟨_, by first | rfl | (simp [errW_none, errW_some] <;> rfl) | (simp [*, errW_none, errW_some] <;> rfl), by first | exact Kd.R_nil _ _ _ _ _ | exact Kd.N_nil _ _ _ _ _ | exact Kd.V_nil _ _ _ _ _ | exact Kd.Q_nil _ _ _ _ _ | exact Kd.S_nil _ _ _ _ _, by repeat (first | (with_reducible first | exact HB.out | apply below_alloc | apply pw_below_drewN | apply below_drew1 | refine below_set ?_ (IsS120.ge HI305.out)) | exact HB.out)⟩
            · rw [if_neg c53] at H
              have c53b0 : decide (0 < x8_1) = false := decide_eq_false c53
              clear c53
              replace H := Option.bind_eq_some_iff.mp H
              obtain ⟨⟨t309, t310⟩, A550, H⟩ := H
              replace H : (some (t309, 0)) = some (r1, r2) := H
              have A55 := Aside0.mk A550
              clear A550
              simp only [Option.some.injEq, Prod.mk.injEq] at H
              obtain ⟨rfl, rfl⟩ := H
              go_wp2_with (first | ((with_reducible refine gate_callee (f := 83) rfl ?_); refine goesL_ (some 25) rfl rfl Try.func83 (by kernel_rfl) rfl #[.pointer (some ⟨g305, 0, none⟩)] rfl (by (try simp only [List.map_toArray, List.map_cons, List.map_nil]); first | done | rfl | (simp only [List.length_drop, List.length_take]; rfl)) ?_; (with_reducible refine (pack_Reader_Left.calls g305 x306000_1 x306001_1 t306 t307 t308 w _ ?side1 ?side2 A7.out).mono ?_); (case side1 => repeat (first | (with_reducible first | exact HI305.out | apply IsS120.alloc | apply IsS120.drewN | apply IsS120.drew | apply IsS120.set_0 | apply IsS120.set_1) | exact HI305.out)); (case side2 => repeat (first | (with_reducible first | exact HB.out | apply below_alloc | apply pw_below_drewN | apply below_drew1 | refine below_set ?_ (IsS120.ge HI305.out)) | exact HB.out)); rintro e w56 ⟨rfl, hi, hb, hk⟩; refine ⟨_, rfl, ?_⟩; have n0_ := Aside0.mk (Kd.R_mono (Kd.R_keep (IsS120.apart (show IsS120 w _ g305 x306000_1 x306001_1 from by repeat (first | (with_reducible first | exact HI305.out | apply IsS120.alloc | apply IsS120.drewN | apply IsS120.drew | apply IsS120.set_0 | apply IsS120.set_1) | exact HI305.out)) (by (with_reducible repeat (first | apply Kd.R_alloc | apply Kd.R_drewN | apply Kd.R_drew)); exact HO_7.out) (by decide)) hk (fun _ h => h.2)) (fun _ h => h.1)); have n1_ := Aside0.mk (hb); have n2_ := Aside0.mk (hi); clear HO_7; clear HB; clear HI305; have HO_7 := n0_; have HB := n1_; have HI305 := n2_; clear n0_ n1_ n2_; (try clear hb); (try clear hb2); (try clear hk); (try clear hi); obtain ⟨Ao57, co57, eo57⟩ := Kd.R_slice HO_7.out; subst eo57) | ((with_reducible refine gate_callee (f := 39) rfl ?_); refine goesL_ (some 76) rfl rfl Try.func39 (by kernel_rfl) rfl #[.slice Ao57 x7_1.length co57, .int .i64 a1] rfl (by (try simp only [List.map_toArray, List.map_cons, List.map_nil]); first | done | rfl | (simp only [List.length_drop, List.length_take]; rfl)) ?_; (with_reducible refine (runs_Spread.calls k1 _ _ x7_1 a1 t309 t310 _ ?side1 ?side2 A55.out).mono ?_); (case side1 => repeat (first | exact (Kd.R_reads' HO_7.out).2.2 | (with_reducible refine Kd.C_alloc ?_ _) | (with_reducible refine Kd.C_drewN ?_ _) | (with_reducible refine Kd.C_drew ?_))); (case side2 => exact (Kd.R_reads' HO_7.out).2.1); rintro e w58 ⟨v311, rfl, ho0, hb⟩; refine ⟨_, rfl, ?_⟩; have n0_ := Aside0.mk (Kd.R_below (by (with_reducible repeat (first | apply Kd.R_alloc | apply Kd.R_drewN | apply Kd.R_drew)); exact HO_7.out) hb); have n1_ := Aside0.mk (Kd.R_lower ho0 (below_size (by repeat (first | (with_reducible first | exact HB.out | apply below_alloc | apply pw_below_drewN | apply below_drew1 | refine below_set ?_ (IsS120.ge HI305.out)) | exact HB.out)))); have n2_ := Aside0.mk (IsS120.below (by repeat (first | (with_reducible first | exact HI305.out | apply IsS120.alloc | apply IsS120.drewN | apply IsS120.drew | apply IsS120.set_0 | apply IsS120.set_1) | exact HI305.out)) hb); have n3_ := Aside0.mk (below_step (by repeat (first | (with_reducible first | exact HB.out | apply below_alloc | apply pw_below_drewN | apply below_drew1 | refine below_set ?_ (IsS120.ge HI305.out)) | exact HB.out)) hb); clear HO_7; clear HI305; clear HB; have HO_7 := n0_; have HO312 := n1_; have HI305 := n2_; have HB := n3_; clear n0_ n1_ n2_ n3_; (try clear hb); (try clear hb2); (try clear hk); (try clear hi); (try clear ho0)))
              go_ret2
              exact ⟨_, by first | rfl | (simp [errW_none, errW_some] <;> rfl) | (simp [*, errW_none, errW_some] <;> rfl), by (with_reducible repeat (first | apply Kd.R_alloc | apply Kd.R_drewN | apply Kd.R_drew)); exact HO312.out, by repeat (first | (with_reducible first | exact HB.out | apply below_alloc | apply pw_below_drewN | apply below_drew1 | refine below_set ?_ (IsS120.ge HI305.out)) | exact HB.out)⟩
def bonsairef06_May.l0 : Nat → List (S53) → Int → Option (Bool)
  | 0, _, _ => none
  | k + 1, x0, x3 => if x3 < (x0.length : Int) then (if 0 ≤ x3 then (if ((rd_T53 x0 x3).f1) < 1 then (some false) else (if x3 > 0 then (if 0 ≤ (wrap64 (x3 - 1)) then (if (wrap64 (x3 - 1)) < (x0.length : Int) then (if ((rd_T53 x0 (wrap64 (x3 - 1))).f0) = ((rd_T53 x0 x3).f0) then (some false) else (bonsairef06_May.l0 k x0 (wrap64 (x3 + 1)))) else (none)) else (none)) else (bonsairef06_May.l0 k x0 (wrap64 (x3 + 1))))) else (none)) else (some true)
def bonsairef06_May.f (k : Nat) (l0 : List (S53)) : Option (Bool) := bonsairef06_May.l0 k l0 0
end Go.Proofs.Ytbgjoiccehiglaa.Print
end
section
namespace Go.Proofs.Ytbgjoiccehiglaa.Print
open Go.RowKit Go.Proofs.YtbgjoiccehiglaaW.PrintWords Go.Proofs.YtbgjoiccehiglaaW.PrintLast Go.Proofs.YtbgjoiccehiglaaW.PrintMore
attribute [local go_sem] max2_int min2_int max_two min_two max_three min_three max_four min_four
set_option linter.unusedVariables false
set_option linter.unusedSimpArgs false
mutual
def bonsairef06_Spread.j0 : Nat → List (S53) → Int → Bool → Option (List Int × Bool)
  | 0, _, _, _ => none
  | k + 1, x0, x1, x15 => if x15 = true then (some (([] : List Int), false)) else (bonsairef06_Spread.l0 k x0 x1 ([] : List Int) 0)
def bonsairef06_Spread.l0 : Nat → List (S53) → Int → List Int → Int → Option (List Int × Bool)
  | 0, _, _, _, _ => none
  | k + 1, x0, x1, x6, x7 => if x7 < (x0.length : Int) then (if 0 ≤ x7 then (if ((rd_T53 x0 x7).f1) > (wrap64 (x1 - (x6.length : Int))) then (some (([] : List Int), false)) else (bonsairef06_Spread.l1 k x0 x1 x6 x7 0)) else (none)) else (some (x6, true))
def bonsairef06_Spread.l1 : Nat → List (S53) → Int → List Int → Int → Int → Option (List Int × Bool)
  | 0, _, _, _, _, _ => none
  | k + 1, x0, x1, x6, x7, x8 => if 0 ≤ x7 then (if x7 < (x0.length : Int) then (if x8 < ((rd_T53 x0 x7).f1) then (if x6.length < 17592186044416 then (bonsairef06_Spread.l1 k x0 x1 (x6 ++ [(rd_T53 x0 x7).f0]) x7 (wrap64 (x8 + 1))) else (none)) else (bonsairef06_Spread.l0 k x0 x1 x6 (wrap64 (x7 + 1)))) else (none)) else (none)
end
def bonsairef06_Spread.f (k : Nat) (l0 : List (S53)) (a1 : Int) : Option (List Int × Bool) := (bonsairef06_May.f k l0).bind fun t384 => (if t384 = true then (bonsairef06_Spread.j0 k l0 a1 (decide (a1 < 0))) else (bonsairef06_Spread.j0 k l0 a1 true))
def bonsairef06_Runs.l0 : Nat → List Int → List (S53) → Int → Option ((List (S53)))
  | 0, _, _, _ => none
  | k + 1, x0, x3, x4 => if x4 < (x0.length : Int) then (if x4 > 0 then (if 0 ≤ (wrap64 (x4 - 1)) then (if (wrap64 (x4 - 1)) < (x0.length : Int) then (if 0 ≤ x4 then (if (rd x0 (wrap64 (x4 - 1))) = (rd x0 x4) then (if 0 ≤ (wrap64 ((x3.length : Int) - 1)) then (if (wrap64 ((x3.length : Int) - 1)) < (x3.length : Int) then (bonsairef06_Runs.l0 k x0 (x3.set ((wrap64 ((x3.length : Int) - 1)) : Int).toNat (⟨(rd_T53 x3 (wrap64 ((x3.length : Int) - 1))).f0, wrap64 (((rd_T53 x3 (wrap64 ((x3.length : Int) - 1))).f1) + 1)⟩ : S53)) (wrap64 (x4 + 1))) else (none)) else (none)) else (if x3.length < 8796093022208 then (bonsairef06_Runs.l0 k x0 (x3 ++ [(⟨rd x0 x4, 1⟩ : S53)]) (wrap64 (x4 + 1))) else (none))) else (none)) else (none)) else (none)) else (if 0 ≤ x4 then (if x3.length < 8796093022208 then (bonsairef06_Runs.l0 k x0 (x3 ++ [(⟨rd x0 x4, 1⟩ : S53)]) (wrap64 (x4 + 1))) else (none)) else (none))) else (some x3)
def bonsairef06_Runs.f (k : Nat) (l0 : List Int) : Option ((List (S53))) := bonsairef06_Runs.l0 k l0 ([] : List (S53)) 0
end Go.Proofs.Ytbgjoiccehiglaa.Print
end
section
namespace Go.Proofs.Ytbgjoiccehiglaa.Print
open Go.RowKit Go.Proofs.YtbgjoiccehiglaaW.PrintWords Go.Proofs.YtbgjoiccehiglaaW.PrintLast Go.Proofs.YtbgjoiccehiglaaW.PrintMore
attribute [local go_sem] max2_int min2_int max_two min_two max_three min_three max_four min_four
set_option linter.unusedVariables false
set_option linter.unusedSimpArgs false
def bonsairef06_Encode.l0 : Nat → List (S53) → ByteArray → Int → Option (ByteArray)
  | 0, _, _, _ => none
  | k + 1, x3, x4, x5 => if x5 < (x3.length : Int) then (if 0 ≤ x5 then ((bonsairef03_Put.f k ((rd_T53 x3 x5).f0)).bind fun t407 => (if x4.size + t407.size ≤ 9223372036854775807 then ((bonsairef03_Put.f k (IntKind.u64.wrap ((rd_T53 x3 x5).f1))).bind fun t409 => (if (x4 ++ t407).size + t409.size ≤ 9223372036854775807 then (bonsairef06_Encode.l0 k x3 ((x4 ++ t407) ++ t409) (wrap64 (x5 + 1))) else (none))) else (none))) else (none)) else (some x4)
def bonsairef06_Encode.f (k : Nat) (l0 : List Int) : Option (ByteArray) := (bonsairef06_Runs.f k l0).bind fun t403 => (bonsairef06_Encode.l0 k t403 (⟨#[]⟩ : ByteArray) 0)
end Go.Proofs.Ytbgjoiccehiglaa.Print
end
section
namespace Go.Proofs.Ytbgjoiccehiglaa.LibW
open Go.RowKit Go.Proofs.Ytbgjoiccehiglaa.Print Go.Proofs.YtbgjoiccehiglaaW.PrintWords Go.Proofs.YtbgjoiccehiglaaW.PrintLast Go.Proofs.YtbgjoiccehiglaaW.PrintMore Go.Proofs.Ytbgjoiccehiglaa.LibU Go.Proofs.Ytbgjoiccehiglaa.LibV Go.Proofs.Ytbgjoiccehiglaa.LibC Go.Proofs.Ytbgjoiccehiglaa.LibE Go.Proofs.Ytbgjoiccehiglaa.LibG
theorem rd_at (l : List Int) (i : Nat) (h : i < l.length) : rd l (i : Int) = l[i] := by simp [rd, List.getD_eq_getElem?_getD, h]
theorem rd53_at (l : List S53) (i : Nat) (h : i < l.length) : rd_T53 l (i : Int) = l[i] := by simp [rd_T53, List.getD_eq_getElem?_getD, h]
theorem len_runs (l : List Int) : (runs l).length ≤ l.length := by
  have := len_spread (may_runs l)
  rwa [spread_runs] at this
theorem take_snoc (l : List Int) (i : Nat) (h : i < l.length) : l.take (i + 1) = l.take i ++ [l[i]] := by rw [List.take_succ_eq_append_getElem h]
theorem last_runs {l : List Int} {x : Int} {a : List S53} {r : S53} (h : runs (l ++ [x]) = a ++ [r]) : r.f0 = x := by
  have hm := may_runs (l ++ [x])
  have hs := spread_runs (l ++ [x])
  rw [h] at hm hs
  have h1 := hm.last
  rw [spread_snoc, show r.f1.toNat = (r.f1.toNat - 1) + 1 by omega, List.replicate_succ', ← List.append_assoc] at hs
  exact (snoc_inj hs).2
theorem refRuns_l (l : List Int) (hl : (l.length : Int) ≤ 1000000000000) : ∀ (d k i : Nat), i + d = l.length → d + 1 ≤ k → bonsairef06_Runs.l0 k l (runs (l.take i)) (i : Int) = some (runs l)
  | 0, k, i, hd, hk => by
    obtain ⟨k, rfl⟩ : ∃ k', k = k' + 1 := ⟨k - 1, by omega⟩
    unfold bonsairef06_Runs.l0
    rw [if_neg (by omega), List.take_of_length_le (by omega)]
  | d + 1, k, i, hd, hk => by
    obtain ⟨k, rfl⟩ : ∃ k', k = k' + 1 := ⟨k - 1, by omega⟩
    have hi : i < l.length := by omega
    have ih := refRuns_l l hl d k (i + 1) (by omega) (by omega)
    rw [take_snoc l i hi, runs_snoc] at ih
    have hlen := len_runs (l.take i)
    rw [List.length_take] at hlen
    unfold bonsairef06_Runs.l0
    rw [if_pos (by omega), w64 (n := (i : Int) + 1) (by omega) (by omega)]
    by_cases h0 : (i : Int) > 0
    · rw [if_pos h0, w64 (n := (i : Int) - 1) (by omega) (by omega), if_pos (by omega), if_pos (by omega), if_pos (by omega)]
      rw [show (i : Int) - 1 = ((i - 1 : Nat) : Int) by omega, rd_at l (i - 1) (by omega), rd_at l i hi]
      rcases snoc_cases (runs (l.take i)) with he | ⟨a, r, he⟩
      · exfalso
        have := spread_runs (l.take i)
        rw [he] at this
        have := congrArg List.length this
        simp [spread] at this
        omega
      · have hr : r.f0 = l[i - 1] := by
          have h2 : l.take i = l.take (i - 1) ++ [l[i - 1]] := by rw [← take_snoc l (i - 1) (by omega)]; congr 1; omega
          rw [h2] at he
          exact last_runs he
        rw [he] at ih hlen ⊢
        rw [addR_snoc, hr] at ih
        have hz : ((a ++ [r]).length : Int) = (a.length : Int) + 1 := by simp
        by_cases hx : l[i - 1] = l[i]
        · rw [if_pos hx] at ih ⊢
          have hcnt : 1 ≤ r.f1 ∧ r.f1 ≤ i := by
            have hm := may_runs (l.take i)
            have hs := congrArg List.length (spread_runs (l.take i))
            rw [he] at hm hs
            rw [spread_snoc, List.length_append, List.length_replicate, List.length_take] at hs
            have := hm.last
            omega
          rw [w64 (n := ((a ++ [r]).length : Int) - 1) (by omega) (by omega), if_pos (by omega), if_pos (by omega)]
          rw [show ((a ++ [r]).length : Int) - 1 = ((a.length : Nat) : Int) by omega, rd53_at _ _ (by simp), Int.toNat_natCast]
          simp only [List.getElem_concat_length]
          rw [set_last, w64 (n := r.f1 + 1) (by omega) (by omega), hr, show (i : Int) + 1 = ((i + 1 : Nat) : Int) by omega]
          exact ih
        · rw [if_neg hx] at ih ⊢
          rw [if_pos (by simp at hlen; simp; omega), show (i : Int) + 1 = ((i + 1 : Nat) : Int) by omega]
          exact ih
    · obtain rfl : i = 0 := by omega
      rw [if_neg h0, if_pos (by omega), if_pos (by simp [runs]), rd_at l 0 hi, show ((0 : Nat) : Int) + 1 = ((0 + 1 : Nat) : Int) by omega]
      exact ih
theorem refRuns_some (l : List Int) (hl : (l.length : Int) ≤ 1000000000000) (k : Nat) (hk : l.length + 1 ≤ k) : bonsairef06_Runs.f k l = some (runs l) :=
  refRuns_l l hl l.length k 0 (by omega) hk
theorem may_same (rs : List S53) (hl : (rs.length : Int) ≤ 1000000000000) : ∀ (k : Nat) (i : Int), 0 ≤ i → runs_May.l0 k rs rs (rs.length : Int) i = bonsairef06_May.l0 k rs i
  | 0, _, _ => rfl
  | k + 1, i, h0 => by
    unfold runs_May.l0 bonsairef06_May.l0
    by_cases hi : i < (rs.length : Int)
    · rw [if_pos hi, if_pos hi, if_pos h0, if_pos hi, if_pos h0, w64 (n := i + 1) (by omega) (by omega), may_same rs hl k (i + 1) (by omega)]
    · rw [if_neg hi, if_neg hi]
theorem may_iff (rs : List S53) : MayR rs ↔ (∀ (i : Nat) (h : i < rs.length), 1 ≤ rs[i].f1) ∧ ∀ (i : Nat) (h : i + 1 < rs.length), rs[i].f0 ≠ rs[i + 1].f0 := by
  constructor
  · intro h
    induction h with
    | nil => exact ⟨fun i h => absurd h (by simp), fun i h => absurd h (by simp)⟩
    | one r h => exact ⟨fun i hi => by obtain rfl : i = 0 := by simpa using hi
                                       exact h, fun i hi => by simp at hi⟩
    | snoc a q r h h1 hne ih =>
      refine ⟨fun i hi => ?_, fun i hi => ?_⟩
      · by_cases hc : i < (a ++ [q]).length
        · rw [List.getElem_append_left hc]; exact ih.1 i hc
        · rw [List.getElem_append_right (by omega)]; simpa using h1
      · by_cases hc : i + 1 < (a ++ [q]).length
        · rw [List.getElem_append_left (by omega), List.getElem_append_left hc]; exact ih.2 i hc
        · have hz : (a ++ [q]).length = a.length + 1 := by simp
          have hz2 : (a ++ [q] ++ [r]).length = a.length + 2 := by simp
          obtain rfl : i = a.length := by omega
          rw [List.getElem_append_left (by omega), List.getElem_append_right (by omega)]
          simpa using hne
  · obtain ⟨n, hn⟩ : ∃ n, n = rs.length := ⟨_, rfl⟩
    induction n generalizing rs with
    | zero => intro _; rw [List.length_eq_zero_iff.mp hn.symm]; exact .nil
    | succ n ih =>
      rintro ⟨h1, h2⟩
      rcases snoc_cases rs with rfl | ⟨b, r, rfl⟩
      · exact .nil
      · have hz : (b ++ [r]).length = b.length + 1 := by simp
        rcases snoc_cases b with rfl | ⟨a, q, rfl⟩
        · exact .one r (by have := h1 0 (by simp); simpa using this)
        · have hz3 : (a ++ [q]).length = a.length + 1 := by simp
          refine .snoc a q r (ih _ (by omega) ⟨fun i hi => ?_, fun i hi => ?_⟩) ?_ ?_
          · have := h1 i (by omega)
            rwa [List.getElem_append_left (by omega)] at this
          · have := h2 i (by omega)
            rwa [List.getElem_append_left (by omega), List.getElem_append_left (bs := [r]) hi] at this
          · have := h1 (a ++ [q]).length (by omega)
            rw [List.getElem_append_right (by omega)] at this
            simpa using this
          · have := h2 a.length (by omega)
            rw [List.getElem_append_left (by omega), List.getElem_append_right (by omega)] at this
            simpa using this
theorem may_l (rs : List S53) (hl : (rs.length : Int) ≤ 1000000000000) : ∀ (d k i : Nat), i + d = rs.length → d + 1 ≤ k → ((∀ (j : Nat) (h : j < rs.length), j < i → 1 ≤ rs[j].f1) ∧ ∀ (j : Nat) (h : j + 1 < rs.length), j + 1 < i → rs[j].f0 ≠ rs[j + 1].f0) →
    ∃ b, bonsairef06_May.l0 k rs (i : Int) = some b ∧ (b = true ↔ MayR rs)
  | 0, k, i, hd, hk, hm => by
    obtain ⟨k, rfl⟩ : ∃ k', k = k' + 1 := ⟨k - 1, by omega⟩
    unfold bonsairef06_May.l0
    rw [if_neg (by omega)]
    exact ⟨true, rfl, by simp only [true_iff]; exact (may_iff rs).mpr ⟨fun j h => hm.1 j h (by omega), fun j h => hm.2 j h (by omega)⟩⟩
  | d + 1, k, i, hd, hk, hm => by
    obtain ⟨k, rfl⟩ : ∃ k', k = k' + 1 := ⟨k - 1, by omega⟩
    have hi : i < rs.length := by omega
    unfold bonsairef06_May.l0
    rw [if_pos (by omega), if_pos (by omega), rd53_at rs i hi]
    by_cases h1 : rs[i].f1 < 1
    · rw [if_pos h1]
      exact ⟨false, rfl, by simp only [Bool.false_eq_true, false_iff]; intro h; have := ((may_iff rs).mp h).1 i hi; omega⟩
    · rw [if_neg h1, w64 (n := (i : Int) + 1) (by omega) (by omega)]
      by_cases h0 : (i : Int) > 0
      · rw [if_pos h0, w64 (n := (i : Int) - 1) (by omega) (by omega), if_pos (by omega), if_pos (by omega), show (i : Int) - 1 = ((i - 1 : Nat) : Int) by omega, rd53_at rs (i - 1) (by omega)]
        by_cases h2 : rs[i - 1].f0 = rs[i].f0
        · rw [if_pos h2]
          refine ⟨false, rfl, ?_⟩
          simp only [Bool.false_eq_true, false_iff]
          intro h
          have := ((may_iff rs).mp h).2 (i - 1) (by omega)
          simp only [show i - 1 + 1 = i by omega] at this
          exact this h2
        · rw [if_neg h2, show (i : Int) + 1 = ((i + 1 : Nat) : Int) by omega]
          refine may_l rs hl d k (i + 1) (by omega) (by omega) ⟨fun j h hj => ?_, fun j h hj => ?_⟩
          · by_cases hji : j = i
            · subst hji; omega
            · exact hm.1 j h (by omega)
          · by_cases hji : j + 1 = i
            · subst hji; simpa using h2
            · exact hm.2 j h (by omega)
      · rw [if_neg h0, show (i : Int) + 1 = ((i + 1 : Nat) : Int) by omega]
        refine may_l rs hl d k (i + 1) (by omega) (by omega) ⟨fun j h hj => ?_, fun j h hj => ?_⟩
        · obtain rfl : j = i := by omega
          omega
        · omega
theorem may_some (rs : List S53) (hl : (rs.length : Int) ≤ 1000000000000) (k : Nat) (hk : rs.length + 1 ≤ k) : ∃ b, runs_May.f k rs = some b ∧ bonsairef06_May.f k rs = some b ∧ (b = true ↔ MayR rs) := by
  obtain ⟨b, h1, h2⟩ := may_l rs hl rs.length k 0 (by omega) hk ⟨fun j _ h => absurd h (by omega), fun j _ h => absurd h (by omega)⟩
  exact ⟨b, (may_same rs hl k 0 (Int.le_refl 0)).trans h1, h1, h2⟩
def sL (most : Int) : List S53 → List Int → List Int × Bool
  | [], out => (out, true)
  | r :: rs, out => if r.f1 > most - out.length then ([], false) else sL most rs (out ++ List.replicate r.f1.toNat r.f0)
theorem sL_is (most : Int) : ∀ (rs : List S53) (out : List Int), (∀ r ∈ rs, 0 ≤ r.f1) → (out.length : Int) ≤ most → sL most rs out = if ((out ++ spread rs).length : Int) ≤ most then (out ++ spread rs, true) else ([], false)
  | [], out, _, ho => by simp [sL, spread, ho]
  | r :: rs, out, hr, ho => by
    have h0 := hr r List.mem_cons_self
    have hsp : spread (r :: rs) = List.replicate r.f1.toNat r.f0 ++ spread rs := by simp [spread]
    unfold sL
    by_cases h : r.f1 > most - out.length
    · rw [if_pos h, if_neg]
      rw [hsp, List.length_append, List.length_append, List.length_replicate]
      omega
    · rw [if_neg h, sL_is most rs _ (fun r hr' => hr r (List.mem_cons_of_mem _ hr')) (by rw [List.length_append, List.length_replicate]; omega), hsp, List.append_assoc]
theorem drop_at (l : List S53) (i : Nat) (h : i < l.length) : l.drop i = l[i] :: l.drop (i + 1) := List.drop_eq_getElem_cons h
theorem spread_l (rs : List S53) (most : Int) (hl : (rs.length : Int) ≤ 1000000000000) (hm : most ≤ 1000000) (hr : ∀ r ∈ rs, 0 ≤ r.f1) : ∀ (d k i : Nat) (out : List Int), i + d = rs.length → d + 1 ≤ k → (out.length : Int) ≤ most →
    runs_Spread.l0 k most out rs (rs.length : Int) (i : Int) = some (sL most (rs.drop i) out)
  | 0, k, i, out, hd, hk, ho => by
    obtain ⟨k, rfl⟩ : ∃ k', k = k' + 1 := ⟨k - 1, by omega⟩
    unfold runs_Spread.l0
    rw [if_neg (by omega), List.drop_eq_nil_of_le (by omega)]
    rfl
  | d + 1, k, i, out, hd, hk, ho => by
    obtain ⟨k, rfl⟩ : ∃ k', k = k' + 1 := ⟨k - 1, by omega⟩
    have hi : i < rs.length := by omega
    have h0 := hr rs[i] (List.getElem_mem hi)
    unfold runs_Spread.l0
    rw [if_pos (by omega), if_pos (by omega), if_pos (by omega), rd53_at rs i hi, drop_at rs i hi, w64 (n := most - out.length) (by omega) (by omega), w64 (n := (i : Int) + 1) (by omega) (by omega)]
    unfold sL
    by_cases h : rs[i].f1 > most - out.length
    · rw [if_pos h, if_pos h]
    · rw [if_neg h, if_neg h]
      unfold slices_Repeat_uint64_uint64.f
      rw [if_pos (by simp), if_pos (by omega)]
      simp only [Option.bind_some, List.length_replicate]
      rw [if_pos (by omega), show rd [rs[i].f0] 0 = rs[i].f0 from rfl, show (i : Int) + 1 = ((i + 1 : Nat) : Int) by omega]
      exact spread_l rs most hl hm hr d k (i + 1) _ (by omega) (by omega) (by rw [List.length_append, List.length_replicate]; omega)
theorem rep_add (n : Nat) (x : Int) (out : List Int) : out ++ [x] ++ List.replicate n x = out ++ List.replicate (n + 1) x := by
  rw [List.append_assoc, List.replicate_succ]; rfl
theorem refSpread_l1 (rs : List S53) (most : Int) (i : Nat) (hi : i < rs.length) (hl : (rs.length : Int) ≤ 1000000000000) (hf : rs[i].f1 ≤ 1000000) : ∀ (d k : Nat) (out : List Int) (j : Int), 0 ≤ j → j + d = rs[i].f1 → d + 1 ≤ k → (out.length : Int) + d ≤ 1000000 →
    bonsairef06_Spread.l1 k rs most out (i : Int) j = bonsairef06_Spread.l0 (k - (d + 1)) rs most (out ++ List.replicate d rs[i].f0) ((i + 1 : Nat) : Int) := by
  intro d
  induction d with
  | zero =>
    intro  k out j h0 hd hk ho
    obtain ⟨k, rfl⟩ : ∃ k', k = k' + 1 := ⟨k - 1, by omega⟩
    unfold bonsairef06_Spread.l1
    rw [if_pos (by omega), if_pos (by omega), rd53_at rs i hi, if_neg (by omega), w64 (by omega) (by omega)]
    simp
  | succ d ih =>
    intro  k out j h0 hd hk ho
    obtain ⟨k, rfl⟩ : ∃ k', k = k' + 1 := ⟨k - 1, by omega⟩
    unfold bonsairef06_Spread.l1
    rw [if_pos (by omega), if_pos (by omega), rd53_at rs i hi, if_pos (by omega), if_pos (by omega), w64 (n := j + 1) (by omega) (by omega)]
    rw [ih k _ (j + 1) (by omega) (by omega) (by omega) (by simp; omega), rep_add]
    congr 1
    omega
theorem refSpread_l (rs : List S53) (most : Int) (hl : (rs.length : Int) ≤ 1000000000000) (hm : most ≤ 1000000) (hr : ∀ r ∈ rs, 0 ≤ r.f1) (K : Nat) (hK : 1000002 ≤ K) : ∀ (d k i : Nat) (out : List Int), i + d = rs.length → d * K + 1 ≤ k → (out.length : Int) ≤ most →
    bonsairef06_Spread.l0 k rs most out (i : Int) = some (sL most (rs.drop i) out) := by
  intro d
  induction d with
  | zero =>
    intro  k i out hd hk ho
    obtain ⟨k, rfl⟩ : ∃ k', k = k' + 1 := ⟨k - 1, by omega⟩
    unfold bonsairef06_Spread.l0
    rw [if_neg (by omega), List.drop_eq_nil_of_le (by omega)]
    rfl
  | succ d ih =>
    intro  k i out hd hk ho
    obtain ⟨k, rfl⟩ : ∃ k', k = k' + 1 := ⟨k - 1, by omega⟩
    rw [Nat.succ_mul] at hk
    generalize d * K = D at hk ih
    have hi : i < rs.length := by omega
    have h0 := hr rs[i] (List.getElem_mem hi)
    unfold bonsairef06_Spread.l0
    rw [if_pos (by omega), if_pos (by omega), rd53_at rs i hi, drop_at rs i hi, w64 (n := most - out.length) (by omega) (by omega)]
    unfold sL
    by_cases h : rs[i].f1 > most - out.length
    · rw [if_pos h, if_pos h]
    · rw [if_neg h, if_neg h, refSpread_l1 rs most i hi hl (by omega) rs[i].f1.toNat k out 0 (by omega) (by omega) (by omega) (by omega)]
      exact ih _ (i + 1) _ (by omega) (by omega) (by rw [List.length_append, List.length_replicate]; omega)
noncomputable def spreadTo (rs : List S53) (most : Int) : List Int × Bool := by
  classical exact if MayR rs ∧ ((spread rs).length : Int) ≤ most then (spread rs, true) else ([], false)
theorem MayR.pos {rs : List S53} (h : MayR rs) : ∀ r ∈ rs, 1 ≤ r.f1 := fun r hr => by
  obtain ⟨i, hi, rfl⟩ := List.getElem_of_mem hr
  exact ((may_iff rs).mp h).1 i hi
theorem spread_some (rs : List S53) (most : Int) (hl : (rs.length : Int) ≤ 1000000000000) (hm : most ≤ 1000000) (hm0 : -9223372036854775808 ≤ most) (k : Nat) (K : Nat) (hK : 1000002 ≤ K) (hk : rs.length * K + rs.length + 3 ≤ k) :
    runs_Spread.f k rs most = some (spreadTo rs most) ∧ bonsairef06_Spread.f k rs most = some (spreadTo rs most) := by
  obtain ⟨k, rfl⟩ : ∃ m, k = m + 1 := ⟨k - 1, by omega⟩
  obtain ⟨b, h1, h2, h3⟩ := may_some rs hl (k + 1) (by omega)
  unfold runs_Spread.f bonsairef06_Spread.f
  rw [h1, h2]
  simp only [Option.bind_some]
  have no : ¬ (MayR rs ∧ ((spread rs).length : Int) ≤ most) → spreadTo rs most = ([], false) := fun h => by unfold spreadTo; rw [if_neg h]
  cases b with
  | false =>
    have hn : ¬ MayR rs := fun h => by have := h3.mpr h; cases this
    simp only [Bool.false_eq_true, if_false, runs_Spread.j0, bonsairef06_Spread.j0, if_true]
    rw [no (fun h => hn h.1)]
    exact ⟨rfl, rfl⟩
  | true =>
    have hmay := h3.mp rfl
    have hr : ∀ r ∈ rs, 0 ≤ r.f1 := fun r hr => by have := MayR.pos hmay r hr; omega
    simp only [if_true, runs_Spread.j0, bonsairef06_Spread.j0]
    by_cases hneg : most < 0
    · rw [if_pos (by simpa using hneg), if_pos (by simpa using hneg), no (fun h => by have := h.2; omega)]
      exact ⟨rfl, rfl⟩
    · rw [if_neg (by simpa using hneg), if_neg (by simpa using hneg)]
      have e1 := spread_l rs most hl hm hr rs.length k 0 [] (by omega) (by omega) (by simp; omega)
      have e2 := refSpread_l rs most hl hm hr K hK rs.length k 0 [] (by omega) (by omega) (by simp; omega)
      simp only [Int.natCast_zero, List.drop_zero] at e1 e2
      rw [e1, e2, sL_is most rs [] hr (by simp; omega), List.nil_append]
      unfold spreadTo
      by_cases hle : ((spread rs).length : Int) ≤ most
      · rw [if_pos hle, if_pos ⟨hmay, hle⟩]; exact ⟨rfl, rfl⟩
      · rw [if_neg hle, if_neg (fun h => hle h.2)]; exact ⟨rfl, rfl⟩
noncomputable def put (x : Int) : ByteArray := strOfNums (putL 9 x)
theorem put_size (x : Int) : 1 ≤ (put x).size ∧ (put x).size ≤ 10 := by
  have := putL_length 9 x
  unfold put
  rw [strOfNums_size]
  omega
noncomputable def encR : List S53 → ByteArray
  | [] => noText
  | r :: rs => (put r.f0 ++ put r.f1) ++ encR rs
theorem encR_size : ∀ rs : List S53, (encR rs).size ≤ 20 * rs.length
  | [] => Nat.zero_le _
  | r :: rs => by
    have := encR_size rs
    have := put_size r.f0
    have := put_size r.f1
    unfold encR
    simp only [ByteArray.size_append, List.length_cons]
    omega
theorem no_app (a : ByteArray) : noText ++ a = a := by
  apply ByteArray.ext
  simp [noText]
theorem app_no (a : ByteArray) : a ++ noText = a := by
  apply ByteArray.ext
  simp [noText]
theorem put_both (x : Int) (h0 : 0 ≤ x) (h1 : x < 18446744073709551616) (k : Nat) (hk : 10 ≤ k) : pack_Put.f k x = some (put x) ∧ bonsairef03_Put.f k x = some (put x) := put_some x h0 h1 k hk
def Wf (rs : List S53) : Prop := ∀ r ∈ rs, (0 ≤ r.f0 ∧ r.f0 < 18446744073709551616) ∧ 0 ≤ r.f1 ∧ r.f1 < 9223372036854775808
theorem enc_g (k : Nat) (hk : 10 ≤ k) : ∀ (l : List S98) (acc : ByteArray), Wf (l.map cv) → acc.size + 20 * l.length ≤ 140737488355328 → runs_Encode.g k l acc = some (acc ++ encR (l.map cv))
  | [], acc, _, _ => by simp only [runs_Encode.g, List.map_nil, encR, app_no]
  | x :: xs, acc, hw, hs => by
    have hx := hw (cv x) List.mem_cons_self
    have h0 := put_size x.f0
    have h1 := put_size x.f1
    simp only [List.length_cons] at hs
    simp only [cv] at hx
    unfold runs_Encode.g
    rw [show IntKind.u64.wrap x.f1 = x.f1 from pack_wraps_u64 _ hx.2.1 (by omega), (put_both x.f0 hx.1.1 hx.1.2 k hk).1, (put_both x.f1 hx.2.1 (by omega) k hk).1]
    simp only [Option.bind_some]
    rw [if_pos (by omega), enc_g k hk xs _ (fun r hr => hw r (List.mem_cons_of_mem _ hr)) (by simp only [ByteArray.size_append]; omega)]
    simp only [List.map_cons, encR, cv, ByteArray.append_assoc]
theorem wf_runs {l : List Int} (hl : (l.length : Int) ≤ 1000000000000) (h : ∀ x ∈ l, 0 ≤ x ∧ x < 18446744073709551616) : Wf (runs l) := fun r hr => by
  have hp := MayR.pos (may_runs l) r hr
  obtain ⟨a, b, hab⟩ := List.append_of_mem hr
  have hs := spread_runs l
  rw [hab] at hs
  have hsp : spread (a ++ r :: b) = spread a ++ (List.replicate r.f1.toNat r.f0 ++ spread b) := by simp [spread]
  rw [hsp] at hs
  have hlen := congrArg List.length hs
  simp only [List.length_append, List.length_replicate] at hlen
  have hmem : r.f0 ∈ l := by
    rw [← hs]
    refine List.mem_append_right _ (List.mem_append_left _ ?_)
    rw [List.mem_replicate]
    exact ⟨by omega, rfl⟩
  exact ⟨h _ hmem, by omega, by omega⟩
theorem refEnc_l (rs : List S53) (hl : (rs.length : Int) ≤ 1000000000000) (hw : Wf rs) : ∀ (d k i : Nat) (acc : ByteArray), i + d = rs.length → d + 11 ≤ k → acc.size + 20 * d ≤ 9223372036854775807 →
    bonsairef06_Encode.l0 k rs acc (i : Int) = some (acc ++ encR (rs.drop i))
  | 0, k, i, acc, hd, hk, hs => by
    obtain ⟨k, rfl⟩ : ∃ k', k = k' + 1 := ⟨k - 1, by omega⟩
    unfold bonsairef06_Encode.l0
    rw [if_neg (by omega), List.drop_eq_nil_of_le (by omega)]
    simp only [encR, app_no]
  | d + 1, k, i, acc, hd, hk, hs => by
    obtain ⟨k, rfl⟩ : ∃ k', k = k' + 1 := ⟨k - 1, by omega⟩
    have hi : i < rs.length := by omega
    have hx := hw rs[i] (List.getElem_mem hi)
    have h0 := put_size rs[i].f0
    have h1 := put_size rs[i].f1
    unfold bonsairef06_Encode.l0
    rw [if_pos (by omega), if_pos (by omega), rd53_at rs i hi, show IntKind.u64.wrap rs[i].f1 = rs[i].f1 from pack_wraps_u64 _ hx.2.1 (by omega), (put_both rs[i].f0 hx.1.1 hx.1.2 k (by omega)).2, (put_both rs[i].f1 hx.2.1 (by omega) k (by omega)).2]
    simp only [Option.bind_some]
    rw [if_pos (by omega), if_pos (by rw [ByteArray.size_append]; omega), w64 (by omega) (by omega), show (i : Int) + 1 = ((i + 1 : Nat) : Int) by omega]
    rw [refEnc_l rs hl hw d k (i + 1) _ (by omega) (by omega) (by simp only [ByteArray.size_append]; omega), drop_at rs i hi]
    simp only [encR, ByteArray.append_assoc]
theorem enc_some (l : List Int) (hl : (l.length : Int) ≤ 1000000000) (h : ∀ x ∈ l, 0 ≤ x ∧ x < 18446744073709551616) (k : Nat) (hk : l.length + 11 ≤ k) : runs_Encode.f k l = some (encR (runs l)) ∧ bonsairef06_Encode.f k l = some (encR (runs l)) := by
  have hw := wf_runs (by omega) h
  have hn := len_runs l
  constructor
  · obtain ⟨r98, h1, h2⟩ := of_is l (by omega) k (by omega)
    have hz : r98.length = (runs l).length := by rw [← h2]; simp
    unfold runs_Encode.f
    rw [h1]
    simp only [Option.bind_some]
    have he : ByteArray.empty = noText := rfl
    have h0 : noText.size = 0 := rfl
    rw [if_pos (by omega), enc_g k (by omega) r98 _ (by rw [h2]; exact hw) (by rw [he, h0]; omega), h2, he, no_app]
  · unfold bonsairef06_Encode.f
    rw [refRuns_some l (by omega) k (by omega)]
    simp only [Option.bind_some]
    have h0 : noText.size = 0 := rfl
    have := refEnc_l (runs l) (by omega) hw (runs l).length k 0 noText (by omega) (by omega) (by rw [h0]; omega)
    simp only [Int.natCast_zero, List.drop_zero, no_app] at this
    exact this
end Go.Proofs.Ytbgjoiccehiglaa.LibW
end
section
namespace Go.Proofs.Ytbgjoiccehiglaa.Print
open Go.RowKit Go.Proofs.YtbgjoiccehiglaaW.PrintWords Go.Proofs.YtbgjoiccehiglaaW.PrintLast Go.Proofs.YtbgjoiccehiglaaW.PrintMore
attribute [local go_sem] max2_int min2_int max_two min_two max_three min_three max_four min_four
set_option linter.unusedVariables false
set_option linter.unusedSimpArgs false
mutual
def bonsairef06_Decode.l0 : Nat → Int → List Int → ByteArray → Int → Int → Option (List Int × Int)
  | 0, _, _, _, _, _ => none
  | k + 1, x1, x7, x433000, x433001, x433002 => (bonsairef03_Reader_Left.f x433000 x433001 x433002).bind fun bt433 => (if bt433.1 > 0 then ((bonsairef03_Reader_Num.f k bt433.2.1 bt433.2.2.1 bt433.2.2.2).bind fun bt437 => ((bonsairef03_Reader_Num.f k bt437.2.1 bt437.2.2.1 bt437.2.2.2).bind fun bt441 => (if bt441.2.2.2 = 0 then (if bt441.1 = 0 then (bonsairef06_Decode.j1 k x1 x7 bt437.1 bt441.1 true bt441.2.1 bt441.2.2.1 bt441.2.2.2) else (if bt441.1 > (IntKind.u64.wrap (wrap64 (x1 - (x7.length : Int)))) then (bonsairef06_Decode.j1 k x1 x7 bt437.1 bt441.1 true bt441.2.1 bt441.2.2.1 bt441.2.2.2) else (if (x7.length : Int) > 0 then (if 0 ≤ (wrap64 ((x7.length : Int) - 1)) then (if (wrap64 ((x7.length : Int) - 1)) < (x7.length : Int) then (bonsairef06_Decode.j1 k x1 x7 bt437.1 bt441.1 ((rd x7 (wrap64 ((x7.length : Int) - 1))) == bt437.1) bt441.2.1 bt441.2.2.1 bt441.2.2.2) else (none)) else (none)) else (bonsairef06_Decode.j1 k x1 x7 bt437.1 bt441.1 false bt441.2.1 bt441.2.2.1 bt441.2.2.2)))) else (some (([] : List Int), bt441.2.2.2))))) else (if (x7.length : Int) < x1 then (some (([] : List Int), 5)) else (some (x7, 0))))
def bonsairef06_Decode.j1 : Nat → Int → List Int → Int → Int → Bool → ByteArray → Int → Int → Option (List Int × Int)
  | 0, _, _, _, _, _, _, _, _ => none
  | k + 1, x1, x7, x8, x9, x59, x433000, x433001, x433002 => if x59 = true then (some (([] : List Int), 5)) else (bonsairef06_Decode.l1 k x1 x7 x8 x9 0 x433000 x433001 x433002)
def bonsairef06_Decode.l1 : Nat → Int → List Int → Int → Int → Int → ByteArray → Int → Int → Option (List Int × Int)
  | 0, _, _, _, _, _, _, _, _ => none
  | k + 1, x1, x7, x8, x9, x10, x433000, x433001, x433002 => if x10 < x9 then (if x7.length < 17592186044416 then (bonsairef06_Decode.l1 k x1 (x7 ++ [x8]) x8 x9 (IntKind.u64.wrap (x10 + 1)) x433000 x433001 x433002) else (none)) else (bonsairef06_Decode.l0 k x1 x7 x433000 x433001 x433002)
end
def bonsairef06_Decode.f (k : Nat) (a0 : ByteArray) (a1 : Int) : Option (List Int × Int) := if a1 < 0 then (some (([] : List Int), 1)) else (if a1 > 4096 then (some (([] : List Int), 10)) else (bonsairef06_Decode.l0 k a1 ([] : List Int) a0 0 0))
end Go.Proofs.Ytbgjoiccehiglaa.Print
end
section
namespace Go.Proofs.Ytbgjoiccehiglaa.LibX
open Go.RowKit Go.Proofs.Ytbgjoiccehiglaa.Print Go.Proofs.YtbgjoiccehiglaaW.PrintWords Go.Proofs.YtbgjoiccehiglaaW.PrintLast Go.Proofs.YtbgjoiccehiglaaW.PrintMore Go.Proofs.Ytbgjoiccehiglaa.LibU Go.Proofs.Ytbgjoiccehiglaa.LibV Go.Proofs.Ytbgjoiccehiglaa.LibW Go.Proofs.Ytbgjoiccehiglaa.LibC Go.Proofs.Ytbgjoiccehiglaa.LibD Go.Proofs.Ytbgjoiccehiglaa.LibE Go.Proofs.Ytbgjoiccehiglaa.LibG
def numT (s : ByteArray) : Int × ByteArray × Int := if (numL s 10 0 0).1 = 0 then ((numL s 10 0 0).2.1, s.extract (numL s 10 0 0).2.2.toNat s.size, 0) else (0, s, (numL s 10 0 0).1)
theorem num_numT (s : ByteArray) (hs : s.size ≤ 9223372036854775000) : pack_Reader_Num.f s 0 = some (numT s) := by
  unfold pack_Reader_Num.f numT
  rw [if_pos hs, if_pos rfl]
  split <;> rfl
theorem num_err (s : ByteArray) (hs : s.size ≤ 9223372036854775000) {e : Int} (he : e ≠ 0) : pack_Reader_Num.f s e = some (0, s, e) := by
  unfold pack_Reader_Num.f
  rw [if_pos hs, if_neg he]
theorem numT_size (s : ByteArray) : (numT s).2.1.size ≤ s.size := by
  unfold numT
  split
  · simp only [ByteArray.size_extract]; omega
  · exact Nat.le_refl _
theorem numT_range (s : ByteArray) (hs : s.size ≤ 9223372036854775000) : 0 ≤ (numT s).1 ∧ (numT s).1 < 18446744073709551616 ∧ ((numT s).2.2 = 0 → (numT s).2.1.size < s.size) := by
  obtain ⟨h1, h2⟩ := numL_is s 10 0 0 (by omega) (by omega) (by omega) (by omega) (by decide)
  unfold numT
  split
  · rename_i h
    have := h1 h
    exact ⟨this.1, this.2.1, fun _ => by simp only [ByteArray.size_extract]; omega⟩
  · rename_i h
    exact ⟨Int.le_refl _, by show (0 : Int) < _; omega, fun h' => absurd h' h⟩
theorem numT_put (x : Int) (h0 : 0 ≤ x) (h1 : x < 18446744073709551616) (t : ByteArray) : numT (put x ++ t) = (x, t, 0) := by
  have h := put_read x h0 h1 t
  unfold numT put
  rw [h, if_pos rfl]
  have := app_cut (strOfNums (putL 9 x)) t
  rw [strOfNums_size] at this
  simp only [Int.toNat_natCast]
  rw [this]
theorem numT_was (s : ByteArray) (hs : s.size ≤ 9223372036854775000) (h : (numT s).2.2 = 0) : s = put (numT s).1 ++ (numT s).2.1 := by
  obtain ⟨h1, h2⟩ := numL_is s 10 0 0 (by omega) (by omega) (by omega) (by omega) (by decide)
  have he : (numL s 10 0 0).1 = 0 := by
    unfold numT at h
    split at h
    · assumption
    · exact h
  have := h1 he
  have h3 := read_put s he
  have h4 := take_drop s (numL s 10 0 0).2.2.toNat (by omega)
  unfold numT put
  rw [if_pos he]
  simp only
  rw [← h3, h4]
theorem noText_of {s : ByteArray} (h : s.size = 0) : s = noText := by
  refine ba_ext (by rw [h]; rfl) (fun i h0 h1 => by omega)
def lastIs (rs : List S53) (v : Int) : Prop := ∃ a r, rs = a ++ [r] ∧ r.f0 = v
open Classical in
noncomputable def dR : Nat → ByteArray → List S53 → Int → List S53 × Int
  | 0, _, rs, _ => (rs, 99)
  | d + 1, s, rs, left =>
    if s.size = 0 then (if left > 0 then ([], 5) else (rs, 0)) else
    if (numT s).2.2 ≠ 0 then ([], (numT s).2.2) else
    if (numT (numT s).2.1).2.2 ≠ 0 then ([], (numT (numT s).2.1).2.2) else
    if (numT (numT s).2.1).1 = 0 ∨ (numT (numT s).2.1).1 > left ∨ lastIs rs (numT s).1 then ([], 5) else
    dR d (numT (numT s).2.1).2.1 (rs ++ [(⟨(numT s).1, (numT (numT s).2.1).1⟩ : S53)]) (left - (numT (numT s).2.1).1)
def fin (p : List S53 × Int) : List Int × Int := if p.2 = 0 then (spread p.1, 0) else ([], p.2)
theorem may_push {rs : List S53} (h : MayR rs) {v c : Int} (hc : 1 ≤ c) (hl : ¬ lastIs rs v) : MayR (rs ++ [(⟨v, c⟩ : S53)]) := by
  rcases snoc_cases rs with rfl | ⟨a, q, rfl⟩
  · exact .one _ hc
  · exact .snoc _ _ _ h hc (fun he => hl ⟨a, q, rfl, he⟩)
theorem may_notLast {rs : List S53} {r : S53} (h : MayR (rs ++ [r])) : ¬ lastIs rs r.f0 := by
  rintro ⟨a, q, rfl, he⟩
  exact h.ne he
theorem may_front : ∀ {b a : List S53}, MayR (a ++ b) → MayR a := fun {b} => by
  induction b with
  | nil => intro a h; simpa using h
  | cons x b ih =>
    intro a h
    have := ih (a := a ++ [x]) (by simpa using h)
    exact this.init
theorem spread_cons (r : S53) (b : List S53) : spread (r :: b) = List.replicate r.f1.toNat r.f0 ++ spread b := by simp [spread]
theorem last_spread {rs : List S53} (h : MayR rs) {v : Int} : lastIs rs v ↔ ∃ a, spread rs = a ++ [v] := by
  rcases snoc_cases rs with rfl | ⟨b, r, rfl⟩
  · constructor
    · rintro ⟨a, q, he, _⟩; simp at he
    · rintro ⟨a, ha⟩; simp [spread] at ha
  · have h1 := h.last
    have hs : spread (b ++ [r]) = (spread b ++ List.replicate (r.f1.toNat - 1) r.f0) ++ [r.f0] := by
      rw [spread_snoc, List.append_assoc, ← List.replicate_succ', show r.f1.toNat - 1 + 1 = r.f1.toNat by omega]
    constructor
    · rintro ⟨a, q, he, hv⟩
      obtain ⟨rfl, rfl⟩ := snoc_inj he
      exact ⟨_, hv ▸ hs⟩
    · rintro ⟨a, ha⟩
      rw [hs] at ha
      exact ⟨b, r, rfl, (snoc_inj ha).2⟩
theorem w64' {x : Int} (h0 : 0 ≤ x) (h1 : x < 18446744073709551616) : IntKind.u64.wrap x = x := pack_wraps_u64 x h0 h1
theorem dec_l (n : Int) (hn0 : 0 ≤ n) (hn : n ≤ 4096) (K : Nat) (hK : 1000002 ≤ K) : ∀ (d k : Nat) (s : ByteArray) (rs : List S53) (left : Int), s.size < d → s.size ≤ 9223372036854775000 → d * K + 5000 * K + 5000 ≤ k → MayR rs → 0 ≤ left → left + (spread rs).length = n →
    runs_Decode.l0 k n rs left s 0 = some (fin (dR d s rs left)) := by
  intro d
  induction d with
  | zero => intro k s rs left hd; omega
  | succ d ih =>
    intro k s rs left hd hs hk hm h0 hl
    obtain ⟨k, rfl⟩ : ∃ m, k = m + 1 := ⟨k - 1, by omega⟩
    rw [Nat.succ_mul] at hk
    have hrl := len_spread hm
    have hmul : rs.length * K ≤ 4096 * K := Nat.mul_le_mul_right K (by omega)
    unfold runs_Decode.l0 dR
    simp only [pack_Reader_Left.f, Option.bind_some]
    by_cases hz : s.size = 0
    · rw [if_neg (by omega), if_pos hz]
      by_cases h1 : left > 0
      · rw [if_pos h1, if_pos h1]; rfl
      · rw [if_neg h1, if_neg h1, (spread_some rs n (by omega) (by omega) (by omega) k K hK (by omega)).1]
        unfold spreadTo fin
        rw [if_pos ⟨hm, by omega⟩]
        rfl
    · have r1 := numT_range s hs
      have z1 := numT_size s
      have r2 := numT_range (numT s).2.1 (by omega)
      have z2 := numT_size (numT s).2.1
      rw [if_pos (by omega), if_neg hz, num_numT s hs]
      simp only [Option.bind_some]
      by_cases e1 : (numT s).2.2 = 0
      · rw [if_neg (c := _ ≠ _) (fun h => h e1), e1, num_numT _ (by omega)]
        simp only [Option.bind_some, pack_Reader_Err.f]
        by_cases e2 : (numT (numT s).2.1).2.2 = 0
        · rw [if_pos e2, if_neg (c := _ ≠ _) (fun h => h e2), e2]
          have hlast : lastIs rs (numT s).1 ↔ 0 < rs.length ∧ (rd_T53 rs ((rs.length : Int) - 1)).f0 = (numT s).1 := by
            rcases snoc_cases rs with rfl | ⟨a, q, rfl⟩
            · exact ⟨fun ⟨a, q, he, _⟩ => by simp at he, fun h => by simp at h⟩
            · have : rd_T53 (a ++ [q]) (((a ++ [q]).length : Int) - 1) = q := by
                rw [show (((a ++ [q]).length : Int) - 1) = (a.length : Int) by simp]; exact rd53_last a q
              rw [this]
              exact ⟨fun ⟨b, r, he, hv⟩ => by obtain ⟨_, rfl⟩ := snoc_inj he; exact ⟨by simp, hv⟩, fun h => ⟨a, q, rfl, h.2⟩⟩
          rw [w64' (x := left) h0 (by omega), w64 (n := (rs.length : Int) - 1) (by omega) (by omega)]
          by_cases c0 : (numT (numT s).2.1).1 = 0
          · rw [if_pos c0, if_pos (.inl c0)]; rfl
          · rw [if_neg c0]
            by_cases c1 : (numT (numT s).2.1).1 > left
            · rw [if_pos c1, if_pos (.inr (.inl c1))]; rfl
            · rw [if_neg c1, w64 (n := (numT (numT s).2.1).1) (by omega) (by omega), w64 (n := left - (numT (numT s).2.1).1) (by omega) (by omega)]
              by_cases c2 : lastIs rs (numT s).1
              · have := hlast.mp c2
                rw [if_pos (by omega), if_pos (by omega), if_pos (by omega), if_pos this.2, if_pos (.inr (.inr c2))]; rfl
              · rw [if_neg (c := _ ∨ _) (fun h => h.elim c0 (fun h => h.elim c1 c2))]
                have go := ih k (numT (numT s).2.1).2.1 (rs ++ [(⟨(numT s).1, (numT (numT s).2.1).1⟩ : S53)]) (left - (numT (numT s).2.1).1) (by have := r1.2.2 e1; omega) (by omega) (by omega) (may_push hm (by omega) c2) (by omega)
                  (by rw [spread_snoc, List.length_append, List.length_replicate]; simp only; omega)
                by_cases c3 : (rs.length : Int) - 1 ≥ 0
                · rw [if_pos c3, if_pos (by omega), if_pos (by omega), if_neg (fun h => c2 (hlast.mpr ⟨by omega, h⟩)), if_pos (by omega)]
                  exact go
                · rw [if_neg c3, if_pos (by omega)]
                  exact go
        · rw [if_neg e2, if_pos e2]
          unfold fin
          rw [if_neg e2]
      · rw [if_pos e1, num_err _ (by omega) e1]
        simp only [Option.bind_some, pack_Reader_Err.f]
        rw [if_neg e1]
        unfold fin
        rw [if_neg e1]
noncomputable def decTo (s : ByteArray) (n : Int) : List Int × Int := if n < 0 then ([], 1) else if n > 4096 then ([], 10) else fin (dR (s.size + 1) s [] n)
theorem dec_some (s : ByteArray) (hs : s.size ≤ 140737488351232) (n : Int) (K : Nat) (hK : 1000002 ≤ K) (k : Nat) (hk : (s.size + 1) * K + 5000 * K + 5000 ≤ k) : runs_Decode.f k s n = some (decTo s n) := by
  unfold runs_Decode.f decTo
  by_cases h0 : n < 0
  · rw [if_pos h0, if_pos h0]
  · by_cases h1 : n > 4096
    · rw [if_neg h0, if_pos h1, if_neg h0, if_pos h1]
    · rw [if_neg h0, if_neg h1, if_neg h0, if_neg h1]
      simp only [pack_New.f, Option.bind_some]
      exact dec_l n (by omega) (by omega) K hK (s.size + 1) k s [] n (by omega) (by omega) hk .nil (by omega) (by simp [spread])
theorem ref_l1 (n v : Int) (S : ByteArray) (a : Int) : ∀ (d k : Nat) (out : List Int) (c j : Int), 0 ≤ j → j + d = c → c ≤ 1000000 → d + 1 ≤ k → (out.length : Int) + d ≤ 1000000 →
    bonsairef06_Decode.l1 k n out v c j S a 0 = bonsairef06_Decode.l0 (k - (d + 1)) n (out ++ List.replicate d v) S a 0 := by
  intro d
  induction d with
  | zero =>
    intro k out c j h0 hd hc hk ho
    obtain ⟨k, rfl⟩ : ∃ m, k = m + 1 := ⟨k - 1, by omega⟩
    unfold bonsairef06_Decode.l1
    rw [if_neg (by omega)]
    simp
  | succ d ih =>
    intro k out c j h0 hd hc hk ho
    obtain ⟨k, rfl⟩ : ∃ m, k = m + 1 := ⟨k - 1, by omega⟩
    unfold bonsairef06_Decode.l1
    rw [if_pos (by omega), if_pos (by omega), w64' (x := j + 1) (by omega) (by omega), ih k _ c (j + 1) (by omega) (by omega) hc (by omega) (by simp; omega), rep_add]
    congr 1
    omega
theorem refDec_l (n : Int) (hn0 : 0 ≤ n) (hn : n ≤ 4096) (S : ByteArray) (K : Nat) (hK : 1000002 ≤ K) : ∀ (d k : Nat) (s : ByteArray) (a : Int) (rs : List S53) (left : Int), s.size < d → Sim S a s → d * K + K ≤ k → MayR rs → 0 ≤ left → left + (spread rs).length = n →
    bonsairef06_Decode.l0 k n (spread rs) S a 0 = some (fin (dR d s rs left)) := by
  intro d
  induction d with
  | zero => intro k s a rs left hd; omega
  | succ d ih =>
    intro k s a rs left hd hS hk hm h0 hl
    obtain ⟨k, rfl⟩ : ∃ m, k = m + 1 := ⟨k - 1, by omega⟩
    rw [Nat.succ_mul] at hk
    have hsz := hS.size
    have hlo := hS.lo
    have hbig := hS.big
    have hs : s.size ≤ 9223372036854775000 := by omega
    unfold bonsairef06_Decode.l0 dR
    rw [(hS.left 0).2]
    simp only [Option.bind_some]
    by_cases hz : s.size = 0
    · rw [if_neg (by omega), if_pos hz]
      by_cases h1 : left > 0
      · rw [if_pos h1, if_pos (by omega)]; rfl
      · rw [if_neg h1, if_neg (by omega)]; rfl
    · have r1 := numT_range s hs
      have z1 := numT_size s
      have r2 := numT_range (numT s).2.1 (by omega)
      have z2 := numT_size (numT s).2.1
      rw [if_pos (by omega), if_neg hz]
      obtain ⟨v, s1, e1', a1, hp, hr, hS1, _, _, _, _, _, hf1⟩ := hS.num 0
      rw [num_numT s hs] at hp
      obtain ⟨hv1, hs1, he1⟩ : (numT s).1 = v ∧ (numT s).2.1 = s1 ∧ (numT s).2.2 = e1' := by
        have := Option.some.inj hp
        rw [this]; exact ⟨rfl, rfl, rfl⟩
      rw [hr k (by omega)]
      simp only [Option.bind_some]
      rw [hs1] at r1 z1 r2 z2
      rw [he1] at r1
      rw [hv1] at r1
      rw [hs1, he1, hv1]
      by_cases e1 : e1' = 0
      · rw [if_neg (c := _ ≠ _) (fun h => h e1), e1]
        obtain ⟨c, s2, e2', a2, hp2, hr2, hS2, _, _, _, _, _, hf2⟩ := hS1.num 0
        rw [num_numT s1 (by omega)] at hp2
        obtain ⟨hv2, hs2, he2⟩ : (numT s1).1 = c ∧ (numT s1).2.1 = s2 ∧ (numT s1).2.2 = e2' := by
          have := Option.some.inj hp2
          rw [this]; exact ⟨rfl, rfl, rfl⟩
        rw [hr2 k (by omega)]
        simp only [Option.bind_some]
        rw [hs2, hv2, he2] at r2
        rw [hs2] at z2
        rw [hs2, he2, hv2]
        by_cases e2 : e2' = 0
        · rw [if_pos e2, if_neg (c := _ ≠ _) (fun h => h e2), e2]
          rw [w64 (n := n - (spread rs).length) (by omega) (by omega), show n - (spread rs).length = left by omega, w64' (x := left) h0 (by omega), w64 (n := ((spread rs).length : Int) - 1) (by omega) (by omega)]
          have hyes : ∀ k' X, X = true → bonsairef06_Decode.j1 (k' + 1) n (spread rs) v c X S a2 0 = some (fin ([], 5)) := by
            rintro k' X rfl
            simp only [bonsairef06_Decode.j1, if_true]; rfl
          obtain ⟨k', rfl⟩ : ∃ m, k = m + 1 := ⟨k - 1, by omega⟩
          by_cases c0 : c = 0
          · rw [if_pos c0, if_pos (.inl c0)]; exact hyes k' _ rfl
          · rw [if_neg c0]
            by_cases c1 : c > left
            · rw [if_pos c1, if_pos (.inr (.inl c1))]; exact hyes k' _ rfl
            · rw [if_neg c1]
              have hno : ∀ X, X = false → ¬ lastIs rs v → bonsairef06_Decode.j1 (k' + 1) n (spread rs) v c X S a2 0 = some (fin (dR d s2 (rs ++ [(⟨v, c⟩ : S53)]) (left - c))) := by
                rintro X rfl c2
                simp only [bonsairef06_Decode.j1, Bool.false_eq_true, if_false]
                rw [ref_l1 n v S a2 c.toNat k' (spread rs) c 0 (by omega) (by omega) (by omega) (by omega) (by omega)]
                have hsp : spread rs ++ List.replicate c.toNat v = spread (rs ++ [(⟨v, c⟩ : S53)]) := (spread_snoc rs ⟨v, c⟩).symm
                rw [hsp]
                exact ih _ s2 a2 _ (left - c) (by have := r1.2.2 e1; omega) hS2 (by omega) (may_push hm (by omega) c2) (by omega) (by rw [← hsp, List.length_append, List.length_replicate]; omega)
              by_cases c2 : lastIs rs v
              · rw [if_pos (c := _ ∨ _) (.inr (.inr c2))]
                obtain ⟨b, hb⟩ := (last_spread hm).mp c2
                have hzl : ((spread rs).length : Int) = b.length + 1 := by rw [hb]; simp
                have hX : rd (spread rs) (((spread rs).length : Int) - 1) = v := by
                  rw [hb, show ((b ++ [v]).length : Int) - 1 = ((b.length : Nat) : Int) by simp, rd_at _ _ (by simp)]
                  simp
                rw [if_pos (by omega), if_pos (by omega), if_pos (by omega), hX]
                exact hyes k' _ (by simp)
              · rw [if_neg (c := _ ∨ _) (fun h => h.elim c0 (fun h => h.elim c1 c2))]
                rcases snoc_cases (spread rs) with he | ⟨b, x, hb⟩
                · rw [if_neg (by rw [he]; simp)]
                  exact hno _ rfl c2
                · have hzl : ((spread rs).length : Int) = b.length + 1 := by rw [hb]; simp
                  rw [if_pos (by omega), if_pos (by omega), if_pos (by omega)]
                  refine hno _ ?_ c2
                  rw [hb, show ((b ++ [x]).length : Int) - 1 = ((b.length : Nat) : Int) by simp, rd_at _ _ (by simp)]
                  simp only [List.getElem_concat_length, beq_eq_false_iff_ne, ne_eq]
                  rintro rfl
                  exact c2 ((last_spread hm).mpr ⟨b, hb⟩)
        · rw [if_neg e2, if_pos e2]
          unfold fin
          rw [if_neg e2]
      · rw [if_pos e1]
        obtain ⟨c, s2, e2', a2, hp2, hr2, hS2, _, _, hk2, _, _, hf2⟩ := hS1.num e1'
        obtain ⟨rfl, rfl, rfl, rfl⟩ := hk2 e1
        rw [hr2 k (by omega)]
        simp only [Option.bind_some]
        rw [if_neg e1]
        unfold fin
        rw [if_neg e1]
theorem refDec_some (s : ByteArray) (hs : s.size ≤ 140737488351232) (n : Int) (K : Nat) (hK : 1000002 ≤ K) (k : Nat) (hk : (s.size + 1) * K + K ≤ k) : bonsairef06_Decode.f k s n = some (decTo s n) := by
  unfold bonsairef06_Decode.f decTo
  by_cases h0 : n < 0
  · rw [if_pos h0, if_pos h0]
  · by_cases h1 : n > 4096
    · rw [if_neg h0, if_pos h1, if_neg h0, if_pos h1]
    · rw [if_neg h0, if_neg h1, if_neg h0, if_neg h1]
      have hS := Sim.begin s hs 0 (by omega) (by omega)
      have hx : s.extract (0 : Int).toNat s.size = s := by simp
      rw [hx] at hS
      exact refDec_l n (by omega) (by omega) s K hK (s.size + 1) k s 0 [] n (by omega) hS hk .nil (by omega) (by simp [spread])
theorem dR_enc : ∀ (b : List S53) (d : Nat) (a : List S53) (left : Int), (encR b).size < d → MayR (a ++ b) → Wf b → 0 ≤ left → dR d (encR b) a left = if ((spread b).length : Int) = left then (a ++ b, 0) else ([], 5) := by
  intro b
  induction b with
  | nil =>
    intro d a left hd hm hw h0
    obtain ⟨d, rfl⟩ : ∃ m, d = m + 1 := ⟨d - 1, by omega⟩
    unfold dR
    have hz : (encR []).size = 0 := rfl
    rw [if_pos hz, show spread [] = [] from rfl]
    by_cases h : left > 0
    · rw [if_pos h, if_neg (by simp; omega)]
    · rw [if_neg h, if_pos (by simp; omega), List.append_nil]
  | cons r b ih =>
    intro d a left hd hm hw h0
    obtain ⟨d, rfl⟩ : ∃ m, d = m + 1 := ⟨d - 1, by omega⟩
    have hr := hw r List.mem_cons_self
    have hm' : MayR (a ++ [r] ++ b) := by simpa using hm
    have hm2 := may_front hm'
    have h1 := hm2.last
    have hnl := may_notLast hm2
    have p0 := put_size r.f0
    have p1 := put_size r.f1
    have he : encR (r :: b) = put r.f0 ++ (put r.f1 ++ encR b) := by simp only [encR, ByteArray.append_assoc]
    have hz : (encR (r :: b)).size = (put r.f0).size + ((put r.f1).size + (encR b).size) := by rw [he, ByteArray.size_append, ByteArray.size_append]
    unfold dR
    rw [if_neg (by omega), he, numT_put r.f0 hr.1.1 hr.1.2]
    simp only [ne_eq, not_true_eq_false, if_false]
    rw [numT_put r.f1 hr.2.1 (by omega)]
    simp only [not_true_eq_false, if_false]
    rw [spread_cons, List.length_append, List.length_replicate]
    by_cases hc : r.f1 > left
    · rw [if_pos (.inr (.inl hc)), if_neg (by omega)]
    · rw [if_neg (fun h => h.elim (fun h => by omega) (fun h => h.elim hc hnl))]
      rw [ih d (a ++ [(⟨r.f0, r.f1⟩ : S53)]) (left - r.f1) (by omega) hm' (fun x hx => hw x (List.mem_cons_of_mem _ hx)) (by omega)]
      by_cases hq : ((spread b).length : Int) = left - r.f1
      · rw [if_pos hq, if_pos (by omega)]
        simp
      · rw [if_neg hq, if_neg (by omega)]
theorem dR_was : ∀ (d : Nat) (s : ByteArray) (a : List S53) (left : Int), s.size ≤ 9223372036854775000 → MayR a → 0 ≤ left → left ≤ 4096 → (dR d s a left).2 = 0 →
    ∃ b, (dR d s a left).1 = a ++ b ∧ s = encR b ∧ MayR (a ++ b) ∧ ((spread b).length : Int) = left ∧ Wf b := by
  intro d
  induction d with
  | zero => intro s a left _ _ _ _ h; exact absurd h (by simp [dR])
  | succ d ih =>
    intro s a left hs hm h0 h4 h
    unfold dR at h ⊢
    have r1 := numT_range s hs
    have z1 := numT_size s
    have r2 := numT_range (numT s).2.1 (by omega)
    have z2 := numT_size (numT s).2.1
    by_cases hz : s.size = 0
    · rw [if_pos hz] at h ⊢
      by_cases hp : left > 0
      · rw [if_pos hp] at h; exact absurd h (by simp)
      · rw [if_neg hp]
        exact ⟨[], by simp, noText_of hz, by simpa using hm, by simp [spread]; omega, fun r hr => by simp at hr⟩
    · rw [if_neg hz] at h ⊢
      by_cases e1 : (numT s).2.2 = 0
      · rw [if_neg (c := _ ≠ _) (fun h => h e1)] at h ⊢
        by_cases e2 : (numT (numT s).2.1).2.2 = 0
        · rw [if_neg (c := _ ≠ _) (fun h => h e2)] at h ⊢
          by_cases hc : (numT (numT s).2.1).1 = 0 ∨ (numT (numT s).2.1).1 > left ∨ lastIs a (numT s).1
          · rw [if_pos hc] at h; exact absurd h (by simp)
          · rw [if_neg hc] at h ⊢
            have hl : ¬ lastIs a (numT s).1 := fun h => hc (.inr (.inr h))
            have hc0 : (numT (numT s).2.1).1 ≠ 0 := fun h => hc (.inl h)
            have hc1 : ¬ (numT (numT s).2.1).1 > left := fun h => hc (.inr (.inl h))
            obtain ⟨b, h1, h2, h3, h4, h5⟩ := ih _ _ _ (by omega) (may_push hm (v := (numT s).1) (c := (numT (numT s).2.1).1) (by omega) hl) (by omega) (by omega) h
            refine ⟨⟨(numT s).1, (numT (numT s).2.1).1⟩ :: b, by rw [h1]; simp, ?_, by simpa using h3, by rw [spread_cons, List.length_append, List.length_replicate]; show (((numT (numT s).2.1).1.toNat + _ : Nat) : Int) = _; omega, fun r hr => ?_⟩
            · have w1 := numT_was s hs e1
              have w2 := numT_was (numT s).2.1 (by omega) e2
              show s = (put (numT s).1 ++ put (numT (numT s).2.1).1) ++ encR b
              rw [← h2, ByteArray.append_assoc, ← w2]
              exact w1
            · rcases List.mem_cons.mp hr with rfl | hr
              · exact ⟨⟨r1.1, r1.2.1⟩, r2.1, by show (numT (numT s).2.1).1 < _; omega⟩
              · exact h5 r hr
        · rw [if_pos e2] at h; exact absurd h e2
      · rw [if_pos e1] at h; exact absurd h e1
theorem dec_enc (l : List Int) (hl : (l.length : Int) ≤ 4096) (h : ∀ x ∈ l, 0 ≤ x ∧ x < 18446744073709551616) : decTo (encR (runs l)) l.length = (l, 0) ∧ ∀ n : Int, n ≠ l.length → (decTo (encR (runs l)) n).2 ≠ 0 := by
  have hw := wf_runs (by omega) h
  have key : ∀ n : Int, 0 ≤ n → dR ((encR (runs l)).size + 1) (encR (runs l)) [] n = if (l.length : Int) = n then (runs l, 0) else ([], 5) := fun n hn => by
    have := dR_enc (runs l) ((encR (runs l)).size + 1) [] n (by omega) (by simpa using may_runs l) hw hn
    rwa [spread_runs, List.nil_append] at this
  constructor
  · unfold decTo
    rw [if_neg (by omega), if_neg (by omega), key _ (by omega), if_pos rfl]
    unfold fin
    rw [if_pos rfl, spread_runs]
  · intro n hn
    unfold decTo
    by_cases h0 : n < 0
    · rw [if_pos h0]; decide
    · by_cases h1 : n > 4096
      · rw [if_neg h0, if_pos h1]; decide
      · rw [if_neg h0, if_neg h1, key n (by omega), if_neg (fun h => hn h.symm)]
        decide
theorem dec_was (s : ByteArray) (hs : s.size ≤ 140737488351232) (n : Int) : ((decTo s n).2 = 0 → ((decTo s n).1.length : Int) = n ∧ encR (runs (decTo s n).1) = s ∧ ∀ x ∈ (decTo s n).1, 0 ≤ x ∧ x < 18446744073709551616) ∧ ((decTo s n).2 ≠ 0 → (decTo s n).1 = []) := by
  unfold decTo
  by_cases h0 : n < 0
  · rw [if_pos h0]; exact ⟨fun h => absurd h (by decide), fun _ => rfl⟩
  · by_cases h1 : n > 4096
    · rw [if_neg h0, if_pos h1]; exact ⟨fun h => absurd h (by decide), fun _ => rfl⟩
    · rw [if_neg h0, if_neg h1]
      unfold fin
      by_cases he : (dR (s.size + 1) s [] n).2 = 0
      · rw [if_pos he]
        refine ⟨fun _ => ?_, fun h => absurd rfl h⟩
        obtain ⟨b, e1, e2, e3, e4, e5⟩ := dR_was (s.size + 1) s [] n (by omega) .nil (by omega) (by omega) he
        simp only [List.nil_append] at e1 e3
        rw [e1]
        refine ⟨e4, ?_, fun x hx => ?_⟩
        · simp only; rw [runs_spread e3, ← e2]
        · simp only [spread, List.mem_flatMap] at hx
          obtain ⟨r, hr, hx⟩ := hx
          obtain rfl := List.eq_of_mem_replicate hx
          exact (e5 r hr).1
      · rw [if_neg he]
        exact ⟨fun h => absurd h he, fun _ => rfl⟩
end Go.Proofs.Ytbgjoiccehiglaa.LibX
end
namespace Go.Proofs.Ytbgjoiccehiglaa.LibY
end Go.Proofs.Ytbgjoiccehiglaa.LibY
section
namespace Go.Proofs.Ytbgjoiccehiglaa.Print
open Go.RowKit Go.Proofs.YtbgjoiccehiglaaW.PrintWords Go.Proofs.YtbgjoiccehiglaaW.PrintLast Go.Proofs.YtbgjoiccehiglaaW.PrintMore
attribute [local go_sem] max2_int min2_int max_two min_two max_three min_three max_four min_four
set_option linter.unusedVariables false
set_option linter.unusedSimpArgs false
def bonsairef04_Few.l0 : Nat → List ByteArray → Int → Int → Option (Bool)
  | 0, _, _, _ => none
  | k + 1, x0, x2, x7 => if x7 < (x0.length : Int) then (if 0 ≤ x7 then (if ((rdOf ByteArray.empty x0 x7).size : Int) > x2 then (some false) else (bonsairef04_Few.l0 k x0 x2 (wrap64 (x7 + 1)))) else (none)) else (some true)
def bonsairef04_Few.f (k : Nat) (l0 : List ByteArray) (a1 : Int) (a2 : Int) : Option (Bool) := if (l0.length : Int) > a1 then (some false) else (bonsairef04_Few.l0 k l0 a2 0)
set_option maxHeartbeats 8000000 in
set_option maxRecDepth 100000 in
theorem bonsairef04_Few.calls (k : Nat) (A0 : Option Addr) (c0 : Nat) (l0 : List ByteArray) (a1 : Int) (a2 : Int) (r : Bool) (w : World) (hr0 : Kd.C Kd.string w A0 l0.length l0) (hc0 : l0.length ≤ c0) (h : bonsairef04_Few.f k l0 a1 a2 = some r) :
    Calls Try.prog 37 #[.slice A0 l0.length c0, .int .i64 a1, .int .i64 a2] w fun e w' => e = .returned (.bool r) ∧ Drawn0 w w' := by
  have HR0 := Aside0.mk hr0
  have HC0 := Aside0.mk hc0
  clear hr0 hc0
  have H : (if (l0.length : Int) > a1 then (some false) else (bonsairef04_Few.l0 k l0 a2 0)) = some r := h
  clear h
  by_cases c4 : (l0.length : Int) > a1
  · rw [if_pos c4] at H
    have c4b0 : decide (a1 < (l0.length : Int)) = true := decide_eq_true c4
    clear c4
    obtain rfl := Option.some.inj H
    go_enter Try.func37, Try.ntmps37
    go_wp2
    go_ret
    exact ⟨by first | rfl | (simp; done) | (simp [*]; done), by repeat (first | exact Drawn0.refl _ | apply Drawn0.step)⟩
  · rw [if_neg c4] at H
    have c4b0 : decide (a1 < (l0.length : Int)) = false := decide_eq_false c4
    clear c4
    have H' := Aside0.mk H
    clear H
    go_enter Try.func37, Try.ntmps37
    go_wp2
    go_loopg [7] k (fun kq v7 w' => ∃ (x7_1 : Int), v7 = .int .i64 x7_1 ∧ Aside0 (bonsairef04_Few.l0 kq l0 a2 x7_1 = some r) ∧ Aside0 (kq ≤ k) ∧ Drawn0 w w')
    case atStart => exact ⟨(0), (by first | rfl | (simp; done) | (simp [*]; done)), H', ⟨Nat.le_refl _⟩, by repeat (first | exact Drawn0.refl _ | apply Drawn0.step)⟩
    case round =>
      clear H'
      try clear p2
      try clear c3
      try clear c4
      try clear c4b0
      obtain ⟨x7_1, rfl, HA, HK1, ⟨m1, rfl⟩⟩ := hrel
      cases gk with
      | zero => exact absurd HA.out (by simp [bonsairef04_Few.l0])
      | succ k1 =>
        have H := HA.out
        clear HA
        simp only [bonsairef04_Few.l0] at H
        by_cases c5 : x7_1 < (l0.length : Int)
        · rw [if_pos c5] at H
          have c5b0 : decide (x7_1 < (l0.length : Int)) = true := decide_eq_true c5
          clear c5
          by_cases c6 : 0 ≤ x7_1
          · rw [if_pos c6] at H
            have c6b0 : decide (0 ≤ x7_1) = true := decide_eq_true c6
            clear c6
            by_cases c7 : ((rdOf ByteArray.empty l0 x7_1).size : Int) > a2
            · rw [if_pos c7] at H
              have c7b0 : decide (a2 < ((rdOf ByteArray.empty l0 x7_1).size : Int)) = true := decide_eq_true c7
              clear c7
              obtain rfl := Option.some.inj H
              have p231 : 0 ≤ (x7_1 : Int) := of_decide_eq_true (by first | (with_reducible assumption) | assumption)
              have q231 : x7_1 < (l0.length : Int) := of_decide_eq_true (by first | (with_reducible assumption) | assumption)
              obtain ⟨ad231, e231, hx231_0⟩ := Kd.at_string HR0.out x7_1 p231 q231
              cases e231
              replace p231 := eq_true p231
              replace q231 := eq_true q231
              go_wp2
              go_ret
              exact ⟨by first | rfl | (simp; done) | (simp [*]; done), by repeat (first | exact Drawn0.refl _ | apply Drawn0.step)⟩
            · rw [if_neg c7] at H
              have c7b0 : decide (a2 < ((rdOf ByteArray.empty l0 x7_1).size : Int)) = false := decide_eq_false c7
              clear c7
              have H' := Aside0.mk H
              clear H
              have p231 : 0 ≤ (x7_1 : Int) := of_decide_eq_true (by first | (with_reducible assumption) | assumption)
              have q231 : x7_1 < (l0.length : Int) := of_decide_eq_true (by first | (with_reducible assumption) | assumption)
              obtain ⟨ad231, e231, hx231_0⟩ := Kd.at_string HR0.out x7_1 p231 q231
              cases e231
              replace p231 := eq_true p231
              replace q231 := eq_true q231
              go_wp2
              go_roundg k1
              case measure => have := HK1.out; omega
              case rel => exact ⟨(wrap64 (x7_1 + 1)), (by first | rfl | (simp; done) | (simp [*]; done)), H', ⟨by have := HK1.out; omega⟩, by repeat (first | exact Drawn0.refl _ | apply Drawn0.step)⟩
          · rw [if_neg c6] at H
            exact absurd H (by simp)
        · rw [if_neg c5] at H
          have c5b0 : decide (x7_1 < (l0.length : Int)) = false := decide_eq_false c5
          clear c5
          obtain rfl := Option.some.inj H
          go_wp2
          go_ret
          exact ⟨by first | rfl | (simp; done) | (simp [*]; done), by repeat (first | exact Drawn0.refl _ | apply Drawn0.step)⟩
end Go.Proofs.Ytbgjoiccehiglaa.Print
end
namespace Go.Proofs.Ytbgjoiccehiglaa.Print
end Go.Proofs.Ytbgjoiccehiglaa.Print
section
namespace Go.Proofs.Ytbgjoiccehiglaa.Pure
open Go.RowKit Go.Proofs.Ytbgjoiccehiglaa.Print Go.Proofs.YtbgjoiccehiglaaW.PrintWords Go.Proofs.YtbgjoiccehiglaaW.PrintLast Go.Proofs.YtbgjoiccehiglaaW.PrintMore Go.Proofs.Ytbgjoiccehiglaa.LibA Go.Proofs.Ytbgjoiccehiglaa.LibB Go.Proofs.Ytbgjoiccehiglaa.LibC Go.Proofs.Ytbgjoiccehiglaa.LibE Go.Proofs.Ytbgjoiccehiglaa.LibF Go.Proofs.Ytbgjoiccehiglaa.LibG
theorem rd_of {l : List ByteArray} {i : Nat} (h : i < l.length) : rdOf ByteArray.empty l (i : Int) = l[i] := by
  simp [rdOf, List.getD_eq_getElem?_getD, h]
theorem few_l (l : List ByteArray) (most : Int) : ∀ (d i k : Nat), i + d = l.length → l.length ≤ 9223372036854775000 → d < k → bonsairef04_Few.l0 k l most (i : Int) = some (decide (∀ x ∈ l.drop i, (x.size : Int) ≤ most))
  | d, i, 0, _, _, hk => by omega
  | d, i, k + 1, hi, hl, hk => by
    simp only [bonsairef04_Few.l0]
    cases d with
    | zero =>
      rw [if_neg (by omega), List.drop_eq_nil_of_le (by omega)]
      simp
    | succ d =>
      have hlt : i < l.length := by omega
      rw [if_pos (by omega), if_pos (by omega), rd_of hlt, List.drop_eq_getElem_cons hlt]
      by_cases h : (l[i].size : Int) > most
      · rw [if_pos h]
        congr 1
        symm
        rw [decide_eq_false_iff_not]
        intro hall
        have := hall l[i] List.mem_cons_self
        omega
      · rw [if_neg h, w64 (by omega) (by omega), show (i : Int) + 1 = ((i + 1 : Nat) : Int) by omega, few_l l most d (i + 1) k (by omega) hl (by omega)]
        congr 1
        rw [decide_eq_decide, List.forall_mem_cons]
        exact ⟨fun h' => ⟨by omega, h'⟩, fun h' => h'.2⟩
theorem few_some (l : List ByteArray) (n most : Int) (hl : n ≤ 9223372036854775000) (k : Nat) (hk : n.toNat + 1 ≤ k) (hn : 0 ≤ n) : bonsairef04_Few.f k l n most = some (decide ((l.length : Int) ≤ n ∧ ∀ x ∈ l, (x.size : Int) ≤ most)) := by
  unfold bonsairef04_Few.f
  by_cases h : (l.length : Int) > n
  · rw [if_pos h]
    congr 1
    symm
    simp
    omega
  · rw [if_neg h]
    have := few_l l most l.length 0 k (by omega) (by omega) (by omega)
    simp only [Int.natCast_zero, List.drop_zero] at this
    rw [this]
    congr 1
    simp
    omega
theorem no_app (a : ByteArray) : noText ++ a = a := by
  have h0 : noText.size = 0 := rfl
  have hz : (noText ++ a).size = a.size := by rw [ByteArray.size_append]; omega
  refine ba_ext hz (fun i hi0 hi => ?_)
  have := bt_app_right (s := noText) (t := a) (d := i) hi0 (by omega)
  rwa [show ((noText.size : Nat) : Int) + i = i by omega] at this
theorem app_no (a : ByteArray) : a ++ noText = a := by
  have h0 : noText.size = 0 := rfl
  have hz : (a ++ noText).size = a.size := by rw [ByteArray.size_append]; omega
  exact ba_ext hz (fun i hi0 hi => bt_app_left hi0 (by omega))
end Go.Proofs.Ytbgjoiccehiglaa.Pure
end
section
namespace Go.Proofs.Ytbgjoiccehiglaa.Print
open Go.RowKit Go.Proofs.YtbgjoiccehiglaaW.PrintWords Go.Proofs.YtbgjoiccehiglaaW.PrintLast Go.Proofs.YtbgjoiccehiglaaW.PrintMore
attribute [local go_sem] max2_int min2_int max_two min_two max_three min_three max_four min_four
set_option linter.unusedVariables false
set_option linter.unusedSimpArgs false
def wordAt (s : ByteArray) : List ByteArray → Nat → Option Nat
  | [], _ => none
  | x :: xs, i => if x.data.toList = s.data.toList then some i else wordAt s xs (i + 1)
def dictG : List ByteArray → List ByteArray → List Int → List ByteArray × List Int
  | [], w, a => (w, a)
  | s :: l, w, a => match wordAt s w 0 with
    | some k => dictG l w (a ++ [(k : Int)])
    | none => dictG l (w ++ [s]) (a ++ [(w.length : Int)])
def sKey (s : ByteArray) : Lit := .string s.data.toList
theorem wordAt_snoc (t s : ByteArray) : ∀ (l : List ByteArray) (i : Nat), wordAt t (l ++ [s]) i = match wordAt t l i with
    | some k => some k
    | none => if s.data.toList = t.data.toList then some (i + l.length) else none
  | [], i => by simp [wordAt]
  | x :: xs, i => by
    show (if x.data.toList = t.data.toList then some i else wordAt t (xs ++ [s]) (i + 1)) = match (if x.data.toList = t.data.toList then some i else wordAt t xs (i + 1)) with
      | some k => some k
      | none => _
    by_cases h : x.data.toList = t.data.toList
    · rw [if_pos h, if_pos h]
    · rw [if_neg h, if_neg h, wordAt_snoc t s xs (i + 1), List.length_cons, show i + 1 + xs.length = i + (xs.length + 1) by omega]
theorem wordAt_lt (s : ByteArray) : ∀ (l : List ByteArray) (i k : Nat), wordAt s l i = some k → i ≤ k ∧ k < i + l.length
  | [], i, k, h => by simp [wordAt] at h
  | x :: xs, i, k, h => by
    unfold wordAt at h
    split at h
    · injection h with h; subst h; simp
    · have := wordAt_lt s xs (i + 1) k h
      simp only [List.length_cons]; omega
structure MapsTo (D : DataW Unit) (words : List ByteArray) : Prop where
  isMap : Maps.IsMap D
  at_ : ∀ s k, wordAt s words 0 = some k → D.atKey (sKey s) (.lit (.int .u64 0)) = .lit (.int .u64 (k : Int))
  has_ : ∀ s, Maps.has D (sKey s) = (wordAt s words 0).isSome
theorem mapsTo_nil : MapsTo (.map []) [] := ⟨Maps.isMap_empty, fun s k h => by simp [wordAt] at h, fun s => rfl⟩
theorem mapsTo_put {D : DataW Unit} {words : List ByteArray} (h : MapsTo D words) (s : ByteArray) (hs : wordAt s words 0 = none) : MapsTo (D.put (sKey s) (.lit (.int .u64 (words.length : Int)))) (words ++ [s]) := by
  have hk : WideAt.IsKeyLit (sKey s) := by unfold sKey WideAt.IsKeyLit; trivial
  refine ⟨h.isMap.put _ _, fun t k ht => ?_, fun t => ?_⟩
  · rw [wordAt_snoc, Nat.zero_add] at ht
    by_cases hst : s.data.toList = t.data.toList
    · have e : sKey t = sKey s := by unfold sKey; rw [hst]
      rw [e, Maps.atKey_put_same h.isMap hk]
      cases hw : wordAt t words 0 with
      | some j =>
        exfalso
        have : ∀ (l : List ByteArray) (i : Nat), wordAt t l i = wordAt s l i := by
          intro l
          induction l with
          | nil => intro i; rfl
          | cons x xs ih => intro i; unfold wordAt; rw [hst, ih]
        rw [this, hs] at hw
        cases hw
      | none =>
        rw [hw] at ht
        simp only [if_pos hst, Option.some.injEq] at ht
        rw [ht]
    · have e : sKey t ≠ sKey s := by unfold sKey; intro h; injection h with h; exact hst h.symm
      rw [Maps.atKey_put_other e]
      cases hw : wordAt t words 0 with
      | some j => rw [hw] at ht; injection ht with ht; subst ht; exact h.at_ t _ hw
      | none => rw [hw] at ht; simp only [if_neg hst] at ht; cases ht
  · rw [wordAt_snoc]
    by_cases hst : s.data.toList = t.data.toList
    · have e : sKey t = sKey s := by unfold sKey; rw [hst]
      rw [e, Maps.has_put_same h.isMap hk]
      cases hw : wordAt t words 0 with
      | some j => rfl
      | none => simp only [if_pos hst]; rfl
    · have e : sKey t ≠ sKey s := by unfold sKey; intro h; injection h with h; exact hst h.symm
      rw [Maps.has_put_other e, h.has_]
      cases hw : wordAt t words 0 with
      | some j => rfl
      | none => simp only [if_neg hst]
def dict_Words.f (l0 : List ByteArray) : Option (List ByteArray × List Int) := if l0.length ≤ 1000000000000 ∧ (∀ s ∈ l0, s.size ≤ 140737488355328) then some (dictG l0 [] []) else none
set_option maxRecDepth 100000 in
theorem zero51 (w : World) : (zeroValue 51).run Try.prog w = .ok (.int .u64 0) w := by rfl
set_option maxHeartbeats 8000000 in
set_option maxRecDepth 100000 in
theorem dict_Words.calls (A0 : Option Addr) (c0 : Nat) (l0 : List ByteArray) (r1 : List ByteArray) (r2 : List Int) (w : World) (hr0 : Kd.C Kd.string w A0 l0.length l0) (hc0 : l0.length ≤ c0) (h : dict_Words.f l0 = some (r1, r2)) :
    Calls Try.prog 65 #[.slice A0 l0.length c0] w fun e w' => ∃ (v0_ v1_ : Value), e = .returned (.tuple #[v0_, v1_]) ∧ Kd.R Kd.string 9 w' w.heap.size (fun _ => True) v0_ r1 ∧ Kd.R (Kd.int .u64) 51 w' w.heap.size (fun _ => True) v1_ r2 ∧ Below w.heap.size w w' := by
  have HR0 := Aside0.mk hr0
  have HC0 := Aside0.mk hc0
  unfold dict_Words.f at h
  by_cases hlen : l0.length ≤ 1000000000000 ∧ (∀ s ∈ l0, s.size ≤ 140737488355328)
  case neg => rw [if_neg hlen] at h; exact absurd h (by simp)
  rw [if_pos hlen] at h
  have H' := Aside0.mk (Option.some.inj h)
  have LM := Aside0.mk hlen
  clear hr0 hc0 h hlen
  have hmm : ∀ w : World, (Instr.makeMap 111 none).run Try.prog w = .ok (.map (some w.heap.size)) (w.alloc (.map #[] 0)) := fun _ => rfl
  go_enter Try.func65, Try.ntmps65
  go_wp2_with ((with_reducible refine gate_dst (N := 14) rfl ?_); refine Kd.R_make (Kd.int .u64) (w0 := w) w.heap.size 51 rfl (N := 14) rfl 38 (.tmp 13) (.tmp 13) rfl (l0.length : Int) rfl rfl Try.underlying38 (.int .u64 0) 8 info51 rfl (by decide) (by decide) (0 : Int) (ok := fun k_ => k_ ≠ w.heap.size) (okp := fun _ => False) rfl (fun _ hk => hk.elim) ?aF ?a0 ?aL ?aB ?aS ?_; (case aF => simp); (case a0 => omega); (case aL => have := LM.out.1; omega); (case aB => exact below_alloc (Below.refl _ _) _); (case aS => simp); intro v6 w2 ho hb hg hnw; have HT := Aside0.mk ho; have HB := Aside0.mk hb; have HM := Aside0.mk (World.ownsMap.kept (H := Unit) (World.ownsMap_made w Try.prog 9 (plainElem Try.prog 51)) hg (by simp)); clear ho hb hg hnw)
  go_loopg [5, 17] (l0.length + 1) (fun kq v5 v17 w' => ∃ (i : Int) (n : Nat) (D : DataW Unit) (words : List ByteArray) (places : List Int), v17 = .int .i64 i ∧ Aside0 (0 ≤ i ∧ i ≤ l0.length ∧ (kq : Int) + i = l0.length + 1 ∧ n ≤ i ∧ words.length ≤ i ∧ places.length = i) ∧ Aside0 (dictG (l0.drop i.toNat) words places = (r1, r2)) ∧ Aside0 (MapsTo D words) ∧ Aside0 (w'.ownsMap Try.prog 9 (plainElem Try.prog 51) w.heap.size n D) ∧ Aside0 (Kd.R Kd.string 9 w' w.heap.size (fun k_ => k_ ≠ w.heap.size) v5 words) ∧ Aside0 (Kd.R (Kd.int .u64) 51 w' w.heap.size (fun k_ => k_ ≠ w.heap.size) v6 (places ++ List.replicate (l0.length - i.toNat) 0)) ∧ Aside0 (Below w.heap.size w w'))
  case atStart => exact ⟨0, 0, .map [], [], [], by simp, ⟨by simp⟩, H', ⟨mapsTo_nil⟩, HM, ⟨Kd.R_nil _ _ _ _ _⟩, ⟨by simpa using HT.out⟩, HB⟩
  case round =>
    clear H' HT HM HB
    obtain ⟨i, n, D, words, places, rfl, HK, HG, HD, HM, HW, HT, HB⟩ := hrel
    cases gk with
    | zero => have := HK.out; exact absurd this (by omega)
    | succ k1 =>
      by_cases hi : i < (l0.length : Int)
      · have hib : decide (i < (l0.length : Int)) = true := decide_eq_true hi
        have hk9 := HK.out
        have hG := HG.out
        clear HG
        obtain ⟨s, hs⟩ : ∃ s, s = rdOf ByteArray.empty l0 i := ⟨_, rfl⟩
        have hdrop : l0.drop i.toNat = s :: l0.drop (i.toNat + 1) := by
          rw [List.drop_eq_getElem_cons (show i.toNat < l0.length by omega), hs]
          congr 1
          unfold rdOf
          simp [List.getD_eq_getElem?_getD, show i.toNat < l0.length by omega]
        have hsz : s.size ≤ 140737488355328 := LM.out.2 s (List.mem_of_mem_drop (i := i.toNat) (by rw [hdrop]; exact List.mem_cons_self))
        rw [hdrop] at hG
        unfold dictG at hG
        have p29 : 0 ≤ i := by omega
        obtain ⟨ad, e0, hx0⟩ := Kd.at_string HR0.out i p29 hi
        subst e0
        have hx := (HB.out.cell (World.block_lt_of_cell? w _ hx0)).trans hx0
        rw [← hs] at hx
        have HKEY := Aside0.mk (Go.WideMaps.keyOf_string_mk (P := Try.prog) (k := 9) Try.underlying9 (s := s) (by have h_ : (140737488355328 : Nat) ≤ maxLen := (by decide); omega))
        have HI := Aside0.mk hi
        replace p29 := eq_true p29
        replace hi := eq_true hi
        obtain ⟨Aw, cw, ew⟩ := Kd.R_slice HW.out
        subst ew
        obtain ⟨g6, c6, e6, hg6⟩ := Kd.R_form HT.out (by have := HI.out; have := HK.out; rw [List.length_append, List.length_replicate]; omega)
        have hlen6 : (places ++ List.replicate (l0.length - i.toNat) (0 : Int)).length = l0.length := by have := HI.out; have := HK.out; rw [List.length_append, List.length_replicate]; omega
        rw [hlen6] at e6
        subst e6
        clear hdrop hx0 hs hk9
        have hwr : IntKind.u64.wrap (words.length : Int) = (words.length : Int) := by have := HK.out; have := LM.out.1; simp [IntKind.wrap, IntKind.bits, IntKind.signed]; omega
        have hwi : wrap64 (i + 1) = i + 1 := by have := HK.out; have := LM.out.1; unfold wrap64; omega
        have hfin : ∀ x : Int, (places ++ List.replicate (l0.length - i.toNat) (0 : Int)).set i.toNat x = (places ++ [x]) ++ List.replicate (l0.length - (i + 1).toNat) (0 : Int) := fun x => by
          have hk := HK.out
          have hi2 := HI.out
          rw [List.set_append_right _ _ (by omega), show i.toNat - places.length = 0 by omega, show l0.length - i.toNat = (l0.length - (i + 1).toNat) + 1 by omega, List.replicate_succ, List.set_cons_zero, List.append_assoc]
          rfl
        have hi1 : (i + 1).toNat = i.toNat + 1 := by have := HK.out; omega
        have HF := Aside0.mk hfin
        clear hfin
        cases hw : wordAt s words 0 with
        | some k =>
          rw [hw] at hG
          have H' := Aside0.mk hG
          have hhas : Maps.has D (.string s.data.toList) = true := by have := HD.out.has_ s; rw [hw] at this; exact this
          have HAT := Aside0.mk (HD.out.at_ s k hw)
          clear hG hw
          have hc6 := (Kd.R_celln (0 : Int) HT.out i (of_eq_true p29) (of_eq_true hi)).1
          have hf6 := (Kd.R_celln (0 : Int) HT.out i (of_eq_true p29) (of_eq_true hi)).2
          go_wp2_with (first | (at_lookup; refine wpList_lookup_own_ok_int _ rfl _ _ 111 rfl 9 51 .u64 (Maps.string_keyed Try.underlying9) Try.underlying111 Try.underlying51 (zero51 _) w.heap.size n D rfl HM.out _ _ rfl HKEY.out ?_; intro c hat hwc; have HC := Aside0.mk (show c = (k : Int) from by have h1 := hat.symm.trans HAT.out; injection h1 with h1; injection h1); clear hat hwc))
          go_roundg k1
          case measure => have := HK.out; omega
          case rel =>
            have hk := HK.out
            refine ⟨i + 1, n, D, words, places ++ [(k : Int)], (by first | rfl | (simp; done) | (simp [*]; done)), ⟨by have := HI.out; rw [List.length_append]; simp only [List.length_cons, List.length_nil]; omega⟩, ⟨by rw [hi1]; exact H'.out⟩, HD, ⟨World.ownsMap.setCell HM.out (by show w.heap.size ≠ g6; exact fun h_ => HT.out.1 g6 rfl h_.symm) _⟩, ⟨Kd.R_set HW.out hg6.2.2.choose_spec (by decide) _ _⟩, ⟨?_⟩, ⟨below_set HB.out hg6.1⟩⟩
            have h3 := Kd.R_putn HT.out i (k : Int)
            rw [HF.out] at h3
            rw [HC.out]
            exact h3
        | none =>
          rw [hw] at hG
          have H' := Aside0.mk hG
          have HN := Aside0.mk hw
          have hhas : Maps.has D (.string s.data.toList) = false := by have := HD.out.has_ s; rw [hw] at this; exact this
          clear hG hw
          go_wp2_with (first | (at_lookup; refine wpList_lookup_own_ok_int _ rfl _ _ 111 rfl 9 51 .u64 (Maps.string_keyed Try.underlying9) Try.underlying111 Try.underlying51 (zero51 _) w.heap.size n D rfl HM.out _ _ rfl HKEY.out ?_; intro c hat hwc; clear hat hwc) | (at_mapUpdate; refine wpList_mapUpdate_own _ rfl _ _ _ 111 rfl 9 51 (Maps.string_keyed Try.underlying9) Try.underlying111 (plainElem Try.prog 51) w.heap.size n D rfl HM.out (by have := HK.out; have := LM.out.1; have : (1000000000000 : Nat) < maxLen := (by decide); omega) _ _ (.string s.data.toList) rfl rfl HKEY.out (.lit (.int .u64 (words.length : Int))) [] (plainElem_int Try.underlying51 (by have := HK.out; have := LM.out.1; simp [Lit.wf, IntKind.min, IntKind.max, IntKind.bits, IntKind.signed]; omega)) ?_; intro w3 hown hgr; have n0_ := Aside0.mk (Kd.R_grown HW.out hgr (fun k_ hk he_ => hk (Option.some.inj he_))); have n1_ := Aside0.mk (Kd.R_grown HT.out hgr (fun k_ hk he_ => hk (Option.some.inj he_))); have n2_ := Aside0.mk (HB.out.grown hgr (below_size HB.out) (fun k_ hk => by have h_ := Option.some.inj hk; omega)); clear HM HW HT HB; have HM := Aside0.mk hown; have HW := n0_; have HT := n1_; have HB := n2_; clear n0_ n1_ n2_ hown hgr) | ((with_reducible refine gate_builtin (b := .append) (xs := #[.tmp 36, .tmp 38]) rfl ?_); at_builtin; refine Kd.R_append Kd.string (w0 := w) w.heap.size rfl (.tmp 36) (.tmp 38) 35 9 (.string ⟨#[]⟩) 16 rfl Try.underlying35 info9 rfl (by decide) (by decide) (.slice Aw words.length cw) words s [.string s] (fun k_ => k_ ≠ w.heap.size) (fun _ => False) rfl rfl rfl (fun _ hk => hk.elim) (fun k_ hk => by have := World.ownsMap.lt HM.out; omega) HW.out HB.out (below_size HB.out) (by have := HK.out; have := LM.out.1; omega) ?_; intro v4 w4 ho hb hg hat; have n0_ := Aside0.mk (World.ownsMap.kept HM.out hg (fun he_ => HW.out.1 _ he_.symm rfl)); have n1_ := Aside0.mk (Kd.R_over HT.out HW.out (by decide) hg); have n2_ := Aside0.mk hb; clear HM HT HB HW; have HM := n0_; have HT := n1_; have HB := n2_; have HW := Aside0.mk ho; clear n0_ n1_ n2_ ho hb hg hat; have hc6 := (Kd.R_celln (0 : Int) HT.out i (of_eq_true p29) (of_eq_true hi)).1; have hf6 := (Kd.R_celln (0 : Int) HT.out i (of_eq_true p29) (of_eq_true hi)).2))
          go_roundg k1
          case measure => have := HK.out; omega
          case rel =>
            have hk := HK.out
            refine ⟨i + 1, n + 1, _, words ++ [s], places ++ [(words.length : Int)], (by first | rfl | (simp; done) | (simp [*]; done)), ⟨by have := HI.out; rw [List.length_append, List.length_append]; simp only [List.length_cons, List.length_nil]; omega⟩, ⟨by rw [hi1]; exact H'.out⟩, ⟨mapsTo_put HD.out s HN.out⟩, ⟨World.ownsMap.setCell HM.out (by show w.heap.size ≠ g6; exact fun h_ => HT.out.1 g6 rfl h_.symm) _⟩, ⟨?_⟩, ⟨?_⟩, ⟨below_set HB.out hg6.1⟩⟩
            · obtain ⟨cells, hcells⟩ := Kd.R_typed HT.out g6 rfl
              exact Kd.R_set HW.out hcells (by decide) _ _
            · have h3 := Kd.R_putn HT.out i (words.length : Int)
              rw [HF.out] at h3
              exact h3
      · have hib : decide (i < (l0.length : Int)) = false := decide_eq_false hi
        have hk9 := HK.out
        have hG := HG.out
        rw [List.drop_eq_nil_of_le (by omega)] at hG
        have hG2 : (words, places) = (r1, r2) := hG
        injection hG2 with h1 h2
        subst h1
        subst h2
        have hz : l0.length - i.toNat = 0 := by omega
        clear hG HG hi
        go_wp2
        go_ret2
        refine ⟨_, _, rfl, Kd.R_mono HW.out (fun _ _ => trivial), ?_, HB.out⟩
        have := HT.out
        rw [hz] at this
        simpa using Kd.R_mono this (fun _ _ => trivial)
theorem step_unguard {P : Program} {ops : Array Oper} {o : Oper} {a : Act} {w : World} {K : Act → World → Prop} {Q : Exit → Act → World → Prop} {E : Prop} (hw : Region.wanted o (yielded ops a.tmps) = true)
    (h : if Region.wanted { o with guard := none } (yielded ops a.tmps) = true then Oper.wp P { o with guard := none } a w K Q else E) : if Region.wanted o (yielded ops a.tmps) = true then Oper.wp P o a w K Q else E := by
  rw [if_pos hw]
  rw [if_pos (show Region.wanted { o with guard := none } (yielded ops a.tmps) = true by simp [Region.wanted])] at h
  exact h
theorem cut_one (aw : Addr) (n c0 : Nat) (x : Int) (hx : 0 ≤ x) (h1 : x < n) (hc : n ≤ c0) (W : World) : (Instr.slice 35 (.slice (some aw) n c0) (some (.int .u64 x)) (some (.int .u64 (x + 1))) none).run Try.prog W = .ok (.slice (some (aw.add x.toNat)) 1 (c0 - x.toNat)) W := by
  obtain ⟨i0, hi, _, hz1, _⟩ := info_parts info9
  have h := cut_mid (P := Try.prog) 35 9 .u64 .u64 Try.underlying35 hi 1 hz1 (some aw) n c0 x (x + 1) hx (by omega) (by omega) hc W
  rw [if_neg (by omega), show (x + 1).toNat - x.toNat = 1 by omega, Nat.mul_one] at h
  exact h
def dictP (words : List ByteArray) : List Int → List ByteArray → Option (List ByteArray)
  | [], out => some out
  | k :: ks, out => if k ≥ (words.length : Int) then none else dictP words ks (out ++ [rdOf ByteArray.empty words k])
def dict_Pick.f (l0 : List ByteArray) (l1 : List Int) : Option (List ByteArray × Bool) := if l0.length ≤ 1000000000000 ∧ l1.length ≤ 1000000000000 ∧ (∀ x ∈ l1, 0 ≤ x) then (match dictP l0 l1 [] with
  | none => some ([], false)
  | some out => some (out, true)) else none
set_option maxHeartbeats 8000000 in
set_option maxRecDepth 100000 in
theorem dict_Pick.calls (A0 : Option Addr) (c0 : Nat) (l0 : List ByteArray) (A1 : Option Addr) (c1 : Nat) (l1 : List Int) (r1 : List ByteArray) (r2 : Bool) (w : World) (hr0 : Kd.C Kd.string w A0 l0.length l0) (hc0 : l0.length ≤ c0) (hr1 : Kd.C (Kd.int .u64) w A1 l1.length l1) (hc1 : l1.length ≤ c1) (h : dict_Pick.f l0 l1 = some (r1, r2)) :
    Calls Try.prog 67 #[.slice A0 l0.length c0, .slice A1 l1.length c1] w fun e w' => ∃ v0_ : Value, e = .returned (.tuple #[v0_, .bool r2]) ∧ Kd.R Kd.string 9 w' w.heap.size (fun _ => True) v0_ r1 ∧ Below w.heap.size w w' := by
  unfold dict_Pick.f at h
  by_cases hlen : l0.length ≤ 1000000000000 ∧ l1.length ≤ 1000000000000 ∧ (∀ x ∈ l1, 0 ≤ x)
  case neg => rw [if_neg hlen] at h; exact absurd h (by simp)
  rw [if_pos hlen] at h
  have HR0 := Aside0.mk hr0
  have HC0 := Aside0.mk hc0
  have HR1 := Aside0.mk hr1
  have H' := Aside0.mk h
  have LM := Aside0.mk hlen
  obtain ⟨N, hN⟩ : ∃ N, N = l1.length := ⟨_, rfl⟩
  obtain ⟨i0, hi, hz0, hz1, hz2⟩ := info_parts info9
  have hmk : ∀ w, (Instr.makeSlice 35 (.int .i64 (l1.length : Int)) (.int .i64 (l1.length : Int))).run Try.prog w = .ok (.slice (some ⟨w.heap.size, 0, none⟩) N N) (w.alloc (.cells (List.replicate N (Value.string ⟨#[]⟩)).toArray 9)) := fun w => by
    have h := run_make (P := Try.prog) w 35 9 i0 _ Try.underlying35 hi hz0 .i64 .i64 (l1.length : Int) (l1.length : Int) (by omega) (Int.le_refl _) (by have := LM.out.2.1; rw [hz2]; omega) (by have := LM.out.2.1; omega)
    rw [h, hN, hz1, Int.toNat_natCast]
    congr 2
    congr 1
    apply Array.ext
    · simp [madeCells]
    · intro j h1 h2
      simp [madeCells, Value.cells, Nat.mod_one]
  have hszE : (Try.prog.info? 9).map (·.size) = some 1 := by rw [hi]; simp [hz1]
  have HN := Aside0.mk hN
  have HMK := Aside0.mk hmk
  have hwr0 : IntKind.u64.wrap (l0.length : Int) = (l0.length : Int) := by have := LM.out.1; simp [IntKind.wrap, IntKind.bits, IntKind.signed]; omega
  clear hr0 hc0 hr1 hc1 h hlen hmk hN hi hz0 hz1 hz2
  go_enter Try.func67, Try.ntmps67
  go_wp2_with ((with_reducible refine gate_dst (N := 11) rfl ?_); (refine Build.make_event rfl (D := 11) rfl (cs := (List.replicate N (Value.string ⟨#[]⟩)).toArray) (t := 9) N N ?hr ?_); (case hr => (have h_ := HMK.out w); first | (go_simp; done) | (go_simp; rfl) | (go_simp; rw [h_]; rfl)); intro g hg w3 hblk hb; have HBK0 := Aside0.mk hblk; have HB0 := Aside0.mk hb; subst hg; clear hblk hb)
  go_loopg [14] (l1.length + 1) (fun kq v14 w' => ∃ (i : Int) (out : List ByteArray), v14 = .int .i64 i ∧ Aside0 (0 ≤ i ∧ i ≤ l1.length ∧ (kq : Int) + i = l1.length + 1 ∧ out.length = i) ∧ Aside0 ((match dictP l0 (l1.drop i.toNat) out with
    | none => some ([], false)
    | some out => some (out, true)) = some (r1, r2)) ∧ Aside0 (w'.heap[w.heap.size]? = some (.cells (out.map Value.string ++ List.replicate (N - i.toNat) (Value.string ⟨#[]⟩)).toArray 9 (0, 0))) ∧ Aside0 (Below w.heap.size w w'))
  case atStart => exact ⟨0, [], by simp, ⟨by simp⟩, H', ⟨by simpa using HBK0.out⟩, HB0⟩
  case round =>
    clear H' HB0 HBK0
    obtain ⟨i, out, rfl, HK, HG, HBK, HB⟩ := hrel
    cases gk with
    | zero => have := HK.out; exact absurd this (by omega)
    | succ k1 =>
      by_cases hi : i < (l1.length : Int)
      · have hib : decide (i < (l1.length : Int)) = true := decide_eq_true hi
        have hk9 := HK.out
        have hG := HG.out
        clear HG
        obtain ⟨x, hx1⟩ : ∃ x, x = rd l1 i := ⟨_, rfl⟩
        have hdrop : l1.drop i.toNat = x :: l1.drop (i.toNat + 1) := by
          rw [List.drop_eq_getElem_cons (show i.toNat < l1.length by omega), hx1]
          congr 1
          unfold rd
          simp [List.getD_eq_getElem?_getD, show i.toNat < l1.length by omega]
        have hx9 : 0 ≤ x := LM.out.2.2 x (List.mem_of_mem_drop (i := i.toNat) (by rw [hdrop]; exact List.mem_cons_self))
        rw [hdrop] at hG
        unfold dictP at hG
        have p29 : 0 ≤ i := by omega
        obtain ⟨ad, e0, hx0⟩ := Kd.at_int HR1.out i p29 hi
        subst e0
        have hx := (HB.out.cell (World.block_lt_of_cell? w _ hx0)).trans hx0
        rw [← hx1] at hx
        have HI := Aside0.mk hi
        have HX := Aside0.mk hx9
        have hi1 : (i + 1).toNat = i.toNat + 1 := by omega
        have hwi : wrap64 (i + 1) = i + 1 := by have := LM.out.2.1; unfold wrap64; omega
        have q6 : i ≤ (N : Int) := by have := HN.out; omega
        have hne6 := eq_false (show ¬ N = i.toNat by have := HN.out; omega)
        replace q6 := eq_true q6
        replace p29 := eq_true p29
        replace hi := eq_true hi
        clear hdrop hx0 hx1 hx9 hk9
        by_cases c2 : x ≥ (l0.length : Int)
        · rw [if_pos c2] at hG
          have c2b : decide ((l0.length : Int) ≤ x) = true := decide_eq_true c2
          clear c2
          simp only [Option.some.injEq, Prod.mk.injEq] at hG
          obtain ⟨rfl, rfl⟩ := hG
          try go_wp2
          refine start_ (n := 17) (S := fun _ => True) (ds := []) #[false, false, false, false, false, false, false, false, false, false, false, false, false, false, false, false, false] (by kernel_rfl) rfl rfl trivial (fun hHeld => ?_)
          refine pure_ (i := 0) (N := some 19) (v := .int .u64 x) (a' := ?_) #[true, false, false, false, false, false, false, false, false, false, false, false, false, false, false, false, false] rfl rfl (by kernel_rfl) (fun _ _ _ h => h) (Or.inl ⟨by kernel_rfl, fun w' => by go_simp⟩) ?_ ?_
          rotate_left
          · simp only [Act.put, List.setIfInBounds_toArray, List.set_cons_zero, List.set_cons_succ]
            rfl
          refine pure_ (i := 1) (N := some 20) (v := .slice A0 l0.length c0) (a' := ?_) #[true, true, false, false, false, false, false, false, false, false, false, false, false, false, false, false, false] rfl rfl (by kernel_rfl) (fun _ _ _ h => h) (Or.inl ⟨by kernel_rfl, fun w' => by go_simp⟩) ?_ ?_
          rotate_left
          · simp only [Act.put, List.setIfInBounds_toArray, List.set_cons_zero, List.set_cons_succ]
            rfl
          refine pure_ (i := 2) (N := some 21) (v := .int .i64 (l0.length : Int)) (a' := ?_) #[true, true, true, false, false, false, false, false, false, false, false, false, false, false, false, false, false] rfl rfl (by kernel_rfl) (fun _ _ _ h => h) (Or.inl ⟨by kernel_rfl, fun w' => by go_simp⟩) ?_ ?_
          rotate_left
          · simp only [Act.put, List.setIfInBounds_toArray, List.set_cons_zero, List.set_cons_succ]
            rfl
          refine pure_ (i := 3) (N := some 22) (v := .int .u64 (l0.length : Int)) (a' := ?_) #[true, true, true, true, false, false, false, false, false, false, false, false, false, false, false, false, false] rfl rfl (by kernel_rfl) (fun _ _ _ h => h) (Or.inl ⟨by kernel_rfl, fun w' => by go_simp⟩) ?_ ?_
          rotate_left
          · simp only [Act.put, List.setIfInBounds_toArray, List.set_cons_zero, List.set_cons_succ]
            rfl
          refine pure_ (i := 4) (N := some 23) (v := .bool true) (a' := ?_) #[true, true, true, true, true, false, false, false, false, false, false, false, false, false, false, false, false] rfl rfl (by kernel_rfl) (fun _ _ _ h => h) (Or.inl ⟨by kernel_rfl, fun w' => by go_simp⟩) ?_ ?_
          rotate_left
          · simp only [Act.put, List.setIfInBounds_toArray, List.set_cons_zero, List.set_cons_succ]
            rfl
          refine pure_ (i := 5) (N := some 24) (v := .bool true) (a' := ?_) #[true, true, true, true, true, true, false, false, false, false, false, false, false, false, false, false, false] rfl rfl (by kernel_rfl) (fun _ _ _ h => h) (Or.inl ⟨by kernel_rfl, fun w' => by go_simp⟩) ?_ ?_
          rotate_left
          · simp only [Act.put, List.setIfInBounds_toArray, List.set_cons_zero, List.set_cons_succ]
            rfl
          refine pure_ (i := 6) (N := some 25) (v := undef) (a' := ?_) #[true, true, true, true, true, true, true, false, false, false, false, false, false, false, false, false, false] rfl rfl (by kernel_rfl) (fun _ _ _ h => h) (Or.inr ⟨by kernel_rfl, rfl⟩) ?_ ?_
          rotate_left
          · simp only [Act.put, List.setIfInBounds_toArray, List.set_cons_zero, List.set_cons_succ]
            rfl
          refine pure_ (i := 7) (N := some 26) (v := undef) (a' := ?_) #[true, true, true, true, true, true, true, true, false, false, false, false, false, false, false, false, false] rfl rfl (by kernel_rfl) (fun _ _ _ h => h) (Or.inr ⟨by kernel_rfl, rfl⟩) ?_ ?_
          rotate_left
          · simp only [Act.put, List.setIfInBounds_toArray, List.set_cons_zero, List.set_cons_succ]
            rfl
          refine pure_ (i := 8) (N := some 27) (v := undef) (a' := ?_) #[true, true, true, true, true, true, true, true, true, false, false, false, false, false, false, false, false] rfl rfl (by kernel_rfl) (fun _ _ _ h => h) (Or.inr ⟨by kernel_rfl, rfl⟩) ?_ ?_
          rotate_left
          · simp only [Act.put, List.setIfInBounds_toArray, List.set_cons_zero, List.set_cons_succ]
            rfl
          refine pure_ (i := 9) (N := some 28) (v := undef) (a' := ?_) #[true, true, true, true, true, true, true, true, true, true, false, false, false, false, false, false, false] rfl rfl (by kernel_rfl) (fun _ _ _ h => h) (Or.inr ⟨by kernel_rfl, rfl⟩) ?_ ?_
          rotate_left
          · simp only [Act.put, List.setIfInBounds_toArray, List.set_cons_zero, List.set_cons_succ]
            rfl
          refine pure_ (i := 10) (N := some 29) (v := undef) (a' := ?_) #[true, true, true, true, true, true, true, true, true, true, true, false, false, false, false, false, false] rfl rfl (by kernel_rfl) (fun _ _ _ h => h) (Or.inr ⟨by kernel_rfl, rfl⟩) ?_ ?_
          rotate_left
          · simp only [Act.put, List.setIfInBounds_toArray, List.set_cons_zero, List.set_cons_succ]
            rfl
          refine pure_ (i := 11) (N := some 30) (v := undef) (a' := ?_) #[true, true, true, true, true, true, true, true, true, true, true, true, false, false, false, false, false] rfl rfl (by kernel_rfl) (fun _ _ _ h => h) (Or.inr ⟨by kernel_rfl, rfl⟩) ?_ ?_
          rotate_left
          · simp only [Act.put, List.setIfInBounds_toArray, List.set_cons_zero, List.set_cons_succ]
            rfl
          refine pure_ (i := 12) (N := some 31) (v := undef) (a' := ?_) #[true, true, true, true, true, true, true, true, true, true, true, true, true, false, false, false, false] rfl rfl (by kernel_rfl) (fun _ _ _ h => h) (Or.inr ⟨by kernel_rfl, rfl⟩) ?_ ?_
          rotate_left
          · simp only [Act.put, List.setIfInBounds_toArray, List.set_cons_zero, List.set_cons_succ]
            rfl
          refine pure_ (i := 13) (N := some 32) (v := undef) (a' := ?_) #[true, true, true, true, true, true, true, true, true, true, true, true, true, true, false, false, false] rfl rfl (by kernel_rfl) (fun _ _ _ h => h) (Or.inr ⟨by kernel_rfl, rfl⟩) ?_ ?_
          rotate_left
          · simp only [Act.put, List.setIfInBounds_toArray, List.set_cons_zero, List.set_cons_succ]
            rfl
          refine pure_ (i := 14) (N := some 33) (v := undef) (a' := ?_) #[true, true, true, true, true, true, true, true, true, true, true, true, true, true, true, false, false] rfl rfl (by kernel_rfl) (fun _ _ _ h => h) (Or.inr ⟨by kernel_rfl, rfl⟩) ?_ ?_
          rotate_left
          · simp only [Act.put, List.setIfInBounds_toArray, List.set_cons_zero, List.set_cons_succ]
            rfl
          refine pure_ (i := 15) (N := some 34) (v := undef) (a' := ?_) #[true, true, true, true, true, true, true, true, true, true, true, true, true, true, true, true, false] rfl rfl (by kernel_rfl) (fun _ _ _ h => h) (Or.inr ⟨by kernel_rfl, rfl⟩) ?_ ?_
          rotate_left
          · simp only [Act.put, List.setIfInBounds_toArray, List.set_cons_zero, List.set_cons_succ]
            rfl
          refine pure_ (i := 16) (N := some 35) (v := .bool true) (a' := ?_) #[true, true, true, true, true, true, true, true, true, true, true, true, true, true, true, true, true] rfl rfl (by kernel_rfl) (fun _ _ _ h => h) (Or.inl ⟨by kernel_rfl, fun w' => by go_simp⟩) ?_ ?_
          rotate_left
          · simp only [Act.put, List.setIfInBounds_toArray, List.set_cons_zero, List.set_cons_succ]
            rfl
          refine done_ (by kernel_rfl) ?_
          try go_wp2
          go_ret2
          exact ⟨_, rfl, Kd.R_nil _ _ _ _ _, below_drew1 HB.out⟩
        · rw [if_neg c2] at hG
          have c2b : decide ((l0.length : Int) ≤ x) = false := decide_eq_false c2
          have H' := Aside0.mk hG
          have hwx : IntKind.u64.wrap (x + 1) = x + 1 := by have := HX.out; have := LM.out.1; simp [IntKind.wrap, IntKind.bits, IntKind.signed]; omega
          obtain ⟨aw, ew, hw0⟩ := Kd.at_string HR0.out x HX.out (by omega)
          subst ew
          have px := eq_true HX.out
          have px1 := eq_true (show x ≤ x + 1 by omega)
          have px2 := eq_true (show x + 1 ≤ (c0 : Int) by have := HC0.out; omega)
          have px3 := eq_true (show x ≤ (c0 : Int) by have := HC0.out; omega)
          have pne := eq_false (show ¬ c0 = x.toNat by have := HC0.out; have := HX.out; omega)
          have hcut : ∀ W : World, (Instr.slice 35 (.slice (some aw) l0.length c0) (some (.int .u64 x)) (some (.int .u64 (x + 1))) none).run Try.prog W = .ok (.slice (some (aw.add x.toNat)) 1 (c0 - x.toNat)) W := cut_one aw l0.length c0 x HX.out (by omega) HC0.out
          obtain ⟨A13, hA13⟩ : ∃ A, A = aw.add x.toNat := ⟨_, rfl⟩
          obtain ⟨c13, hc13⟩ : ∃ c, c = c0 - x.toNat := ⟨_, rfl⟩
          rw [← hA13, ← hc13] at hcut
          have HA13 := Aside0.mk hA13
          clear c2 hG hA13 hc13
          try go_wp2
          refine start_ (n := 17) (S := fun _ => True) (ds := []) #[false, false, false, false, false, false, false, false, false, false, false, false, false, false, false, false, false] (by kernel_rfl) rfl rfl trivial (fun hHeld => ?_)
          refine pure_ (i := 0) (N := some 19) (v := .int .u64 x) (a' := ?_) #[true, false, false, false, false, false, false, false, false, false, false, false, false, false, false, false, false] rfl rfl (by kernel_rfl) (fun _ _ _ h => h) (Or.inl ⟨by kernel_rfl, fun w' => by go_simp⟩) ?_ ?_
          rotate_left
          · simp only [Act.put, List.setIfInBounds_toArray, List.set_cons_zero, List.set_cons_succ]
            rfl
          refine pure_ (i := 1) (N := some 20) (v := .slice (some aw) l0.length c0) (a' := ?_) #[true, true, false, false, false, false, false, false, false, false, false, false, false, false, false, false, false] rfl rfl (by kernel_rfl) (fun _ _ _ h => h) (Or.inl ⟨by kernel_rfl, fun w' => by go_simp⟩) ?_ ?_
          rotate_left
          · simp only [Act.put, List.setIfInBounds_toArray, List.set_cons_zero, List.set_cons_succ]
            rfl
          refine pure_ (i := 2) (N := some 21) (v := .int .i64 (l0.length : Int)) (a' := ?_) #[true, true, true, false, false, false, false, false, false, false, false, false, false, false, false, false, false] rfl rfl (by kernel_rfl) (fun _ _ _ h => h) (Or.inl ⟨by kernel_rfl, fun w' => by go_simp⟩) ?_ ?_
          rotate_left
          · simp only [Act.put, List.setIfInBounds_toArray, List.set_cons_zero, List.set_cons_succ]
            rfl
          refine pure_ (i := 3) (N := some 22) (v := .int .u64 (l0.length : Int)) (a' := ?_) #[true, true, true, true, false, false, false, false, false, false, false, false, false, false, false, false, false] rfl rfl (by kernel_rfl) (fun _ _ _ h => h) (Or.inl ⟨by kernel_rfl, fun w' => by go_simp⟩) ?_ ?_
          rotate_left
          · simp only [Act.put, List.setIfInBounds_toArray, List.set_cons_zero, List.set_cons_succ]
            rfl
          refine pure_ (i := 4) (N := some 23) (v := .bool false) (a' := ?_) #[true, true, true, true, true, false, false, false, false, false, false, false, false, false, false, false, false] rfl rfl (by kernel_rfl) (fun _ _ _ h => h) (Or.inl ⟨by kernel_rfl, fun w' => by go_simp⟩) ?_ ?_
          rotate_left
          · simp only [Act.put, List.setIfInBounds_toArray, List.set_cons_zero, List.set_cons_succ]
            rfl
          refine pure_ (i := 5) (N := some 24) (v := .bool false) (a' := ?_) #[true, true, true, true, true, true, false, false, false, false, false, false, false, false, false, false, false] rfl rfl (by kernel_rfl) (fun _ _ _ h => h) (Or.inl ⟨by kernel_rfl, fun w' => by go_simp⟩) ?_ ?_
          rotate_left
          · simp only [Act.put, List.setIfInBounds_toArray, List.set_cons_zero, List.set_cons_succ]
            rfl
          refine pure_ (i := 6) (N := some 25) (v := .slice (some ⟨w.heap.size, 0, none⟩) N N) (a' := ?_) #[true, true, true, true, true, true, true, false, false, false, false, false, false, false, false, false, false] rfl rfl (by kernel_rfl) (fun _ _ _ h => h) (Or.inl ⟨by kernel_rfl, fun w' => by go_simp⟩) ?_ ?_
          rotate_left
          · simp only [Act.put, List.setIfInBounds_toArray, List.set_cons_zero, List.set_cons_succ]
            rfl
          refine pure_ (i := 7) (N := some 26) (v := .int .i64 i) (a' := ?_) #[true, true, true, true, true, true, true, true, false, false, false, false, false, false, false, false, false] rfl rfl (by kernel_rfl) (fun _ _ _ h => h) (Or.inl ⟨by kernel_rfl, fun w' => by go_simp⟩) ?_ ?_
          rotate_left
          · simp only [Act.put, List.setIfInBounds_toArray, List.set_cons_zero, List.set_cons_succ]
            rfl
          refine pure_ (i := 8) (N := some 27) (v := .slice (some ⟨w.heap.size, i.toNat, none⟩) (N - i.toNat) (N - i.toNat)) (a' := ?_) #[true, true, true, true, true, true, true, true, true, false, false, false, false, false, false, false, false] rfl rfl (by kernel_rfl) (fun _ _ _ h => h) (Or.inl ⟨by kernel_rfl, fun w' => by go_simp⟩) ?_ ?_
          rotate_left
          · simp only [Act.put, List.setIfInBounds_toArray, List.set_cons_zero, List.set_cons_succ]
            rfl
          refine pure_ (i := 9) (N := some 28) (v := .slice (some aw) l0.length c0) (a' := ?_) #[true, true, true, true, true, true, true, true, true, true, false, false, false, false, false, false, false] rfl rfl (by kernel_rfl) (fun _ _ _ h => h) (Or.inl ⟨by kernel_rfl, fun w' => by go_simp⟩) ?_ ?_
          rotate_left
          · simp only [Act.put, List.setIfInBounds_toArray, List.set_cons_zero, List.set_cons_succ]
            rfl
          refine pure_ (i := 10) (N := some 29) (v := .int .u64 x) (a' := ?_) #[true, true, true, true, true, true, true, true, true, true, true, false, false, false, false, false, false] rfl rfl (by kernel_rfl) (fun _ _ _ h => h) (Or.inl ⟨by kernel_rfl, fun w' => by go_simp⟩) ?_ ?_
          rotate_left
          · simp only [Act.put, List.setIfInBounds_toArray, List.set_cons_zero, List.set_cons_succ]
            rfl
          refine pure_ (i := 11) (N := some 30) (v := .int .u64 x) (a' := ?_) #[true, true, true, true, true, true, true, true, true, true, true, true, false, false, false, false, false] rfl rfl (by kernel_rfl) (fun _ _ _ h => h) (Or.inl ⟨by kernel_rfl, fun w' => by go_simp⟩) ?_ ?_
          rotate_left
          · simp only [Act.put, List.setIfInBounds_toArray, List.set_cons_zero, List.set_cons_succ]
            rfl
          refine pure_ (i := 12) (N := some 31) (v := .int .u64 (x + 1)) (a' := ?_) #[true, true, true, true, true, true, true, true, true, true, true, true, true, false, false, false, false] rfl rfl (by kernel_rfl) (fun _ _ _ h => h) (Or.inl ⟨by kernel_rfl, fun w' => by go_simp⟩) ?_ ?_
          rotate_left
          · simp only [Act.put, List.setIfInBounds_toArray, List.set_cons_zero, List.set_cons_succ]
            rfl
          refine pure_ (i := 13) (N := some 32) (v := .slice (some A13) 1 c13) (a' := ?_) #[true, true, true, true, true, true, true, true, true, true, true, true, true, true, false, false, false] rfl rfl (by kernel_rfl) (fun _ _ _ h => h) (Or.inl ⟨by kernel_rfl, fun w' => by go_simp⟩) ?_ ?_
          rotate_left
          · simp only [Act.put, List.setIfInBounds_toArray, List.set_cons_zero, List.set_cons_succ]
            rfl
          refine one_ (i := 14) (N := some 33) #[true, true, true, true, true, true, true, true, true, true, true, true, true, true, true, false, false] rfl rfl (by kernel_rfl) (by decide) (fun K hK => ?_)
          refine step_unguard (by kernel_rfl) ?_
          refine step_copy_splice rfl (.tmp 27) (.tmp 32) 35 35 rfl 9 Try.underlying35 hszE (some ⟨w.heap.size, i.toNat, none⟩) (some A13) (N - i.toNat) (N - i.toNat) 1 c13 rfl rfl w.heap.size i.toNat (out.map Value.string ++ List.replicate (N - i.toNat) (Value.string ⟨#[]⟩)) 9 (blk_drew HBK.out) [Value.string (rdOf ByteArray.empty l0 x)] ?hl1 (fun _ => ⟨rfl, _, rfl, ?hsrc⟩) ?hfit (fun v hv => by rw [List.mem_singleton.mp hv]; rfl) w.heap.size w (below_drew1 HB.out) (Nat.le_refl _) ?_
          case hl1 => have := HN.out; have := HI.out; have := HK.out; show 1 = Nat.min 1 (N - i.toNat); rw [show ∀ a b, Nat.min a b = min a b from fun _ _ => rfl]; omega
          case hsrc =>
            intro j v hv
            have hj : j = 0 := by have := (List.getElem?_eq_some_iff.mp hv).1; simpa using this
            subst hj
            obtain rfl : Value.string (rdOf ByteArray.empty l0 x) = v := by simpa using hv
            rw [show A13.add 0 = A13 by simp [Addr.add], HA13.out]
            exact ((below_drew1 HB.out).cell (World.block_lt_of_cell? w _ hw0)).trans hw0
          case hfit => have := HN.out; have := HI.out; have := HK.out; simp only [List.length_append, List.length_map, List.length_replicate, List.length_cons, List.length_nil]; omega
          intro w4 hg4 hb4
          refine hK.out _ _ trivial (fun hHeld => ?_)
          clear hK K
          refine norm_ (a' := ?_) ?_ ?_
          rotate_left
          · show Act.put _ (some 33) _ = _
            simp only [Act.put, List.setIfInBounds_toArray, List.set_cons_zero, List.set_cons_succ]
            rfl
          refine pure_ (i := 15) (N := some 34) (v := .bool false) (a' := ?_) #[true, true, true, true, true, true, true, true, true, true, true, true, true, true, true, true, false] rfl rfl (by kernel_rfl) (fun _ _ _ h => h) (Or.inl ⟨by kernel_rfl, fun w' => by go_simp⟩) ?_ ?_
          rotate_left
          · simp only [Act.put, List.setIfInBounds_toArray, List.set_cons_zero, List.set_cons_succ]
            rfl
          refine pure_ (i := 16) (N := some 35) (v := .bool false) (a' := ?_) #[true, true, true, true, true, true, true, true, true, true, true, true, true, true, true, true, true] rfl rfl (by kernel_rfl) (fun _ _ _ h => h) (Or.inl ⟨by kernel_rfl, fun w' => by go_simp⟩) ?_ ?_
          rotate_left
          · simp only [Act.put, List.setIfInBounds_toArray, List.set_cons_zero, List.set_cons_succ]
            rfl
          refine done_ (by kernel_rfl) ?_
          have n0_ := Aside0.mk hg4
          have n1_ := Aside0.mk hb4
          clear HBK HB hg4 hb4
          have HBK := n0_
          have HB := n1_
          clear n0_ n1_
          try go_wp2
          go_roundg k1
          case measure => have := HK.out; omega
          case rel =>
            refine ⟨i + 1, out ++ [rdOf ByteArray.empty l0 x], (by first | rfl | (simp; done) | (simp [*]; done)), ⟨by have := HK.out; have := HI.out; rw [List.length_append]; simp only [List.length_cons, List.length_nil]; omega⟩, ⟨by rw [hi1]; exact H'.out⟩, ⟨Eq.trans HBK.out ?_⟩, HB⟩
            have hk := HK.out
            have hii := HI.out
            have hnn := HN.out
            congr 2
            unfold splice
            have e1 : (out.map Value.string).length = i.toNat := by rw [List.length_map]; omega
            rw [← e1, List.take_left, hi1, List.map_append, ← List.drop_drop, List.drop_left, e1]
            simp only [List.length_cons, List.length_nil, List.map_cons, List.map_nil, List.drop_replicate, List.append_assoc]
            rw [show N - i.toNat - (0 + 1) = N - (i.toNat + 1) by omega]
      · have hib : decide (i < (l1.length : Int)) = false := decide_eq_false hi
        have hk9 := HK.out
        have hG := HG.out
        rw [List.drop_eq_nil_of_le (by omega)] at hG
        have hG2 : some (out, true) = some (r1, r2) := hG
        simp only [Option.some.injEq, Prod.mk.injEq] at hG2
        obtain ⟨rfl, rfl⟩ := hG2
        have hn : N - i.toNat = 0 := by have := HN.out; omega
        have hNo : N = out.length := by have := HN.out; omega
        clear hG HG hi hk9
        go_wp2
        go_ret2
        refine ⟨_, rfl, Kd.R_of_own (enc := Value.string) (h1 := fun _ => rfl) ?_ (fun _ _ => trivial), HB.out⟩
        have hb9 := HBK.out
        rw [hn] at hb9
        simp only [List.replicate_zero, List.append_nil] at hb9
        have hb := LM.out.2.1
        have hNN := HN.out
        refine ⟨by simp [encs], .inr ⟨w.heap.size, N, _, by simp [← hNo], Nat.le_refl _, hb9, by simp [← hNo], by unfold maxLen; omega, by simp [hNo], by simp [encs, hNo, List.take_of_length_le]⟩⟩
def bonsairef04_Same.l0 : Nat → List ByteArray → List ByteArray → Int → Option (Bool)
  | 0, _, _, _ => none
  | k + 1, x0, x1, x5 => if x5 < (x0.length : Int) then (if 0 ≤ x5 then (if x5 < (x1.length : Int) then (if (rdOf ByteArray.empty x0 x5).toList = (rdOf ByteArray.empty x1 x5).toList then (bonsairef04_Same.l0 k x0 x1 (wrap64 (x5 + 1))) else (some false)) else (none)) else (none)) else (some true)
def bonsairef04_Same.f (k : Nat) (l0 : List ByteArray) (l1 : List ByteArray) : Option (Bool) := if (l0.length : Int) = (l1.length : Int) then (bonsairef04_Same.l0 k l0 l1 0) else (some false)
theorem bonsairef04_Same.mono_l : ∀ k, (∀ y0 y1 y2, LeO (bonsairef04_Same.l0 k y0 y1 y2) (bonsairef04_Same.l0 (k + 1) y0 y1 y2))
  | 0 => fun _ _ _ r h => by simp [bonsairef04_Same.l0] at h
  | k + 1 => by
    have ih0 := bonsairef04_Same.mono_l k
    · intro y0 y1 y2
      unfold bonsairef04_Same.l0
      repeat' first
      | (with_reducible exact ih0 _ _ _)
      | (with_reducible exact LeO.refl _)
      | (with_reducible exact LeO.none _)
      | (with_reducible refine LeO.ite ?_ ?_)
      | (with_reducible refine LeO.bind ?_ (fun _ => ?_))
      | exact ih0 _ _ _
      | exact LeO.none _
      | refine LeO.ite ?_ ?_
      | refine LeO.bind ?_ (fun _ => ?_)
theorem bonsairef04_Same.mono : ∀ a0 a1 k, LeO (bonsairef04_Same.f k a0 a1) (bonsairef04_Same.f (k + 1) a0 a1) := by
  intro a0 a1 k
  have ih0 := bonsairef04_Same.mono_l k
  unfold bonsairef04_Same.f
  repeat' first
      | (with_reducible exact ih0 _ _ _)
      | (with_reducible exact LeO.refl _)
      | (with_reducible exact LeO.none _)
      | (with_reducible refine LeO.ite ?_ ?_)
      | (with_reducible refine LeO.bind ?_ (fun _ => ?_))
      | exact ih0 _ _ _
      | exact LeO.none _
      | refine LeO.ite ?_ ?_
      | refine LeO.bind ?_ (fun _ => ?_)
set_option maxHeartbeats 8000000 in
set_option maxRecDepth 100000 in
theorem bonsairef04_Same.calls (k : Nat) (A0 : Option Addr) (c0 : Nat) (l0 : List ByteArray) (A1 : Option Addr) (c1 : Nat) (l1 : List ByteArray) (r : Bool) (w : World) (hr0 : Kd.C Kd.string w A0 l0.length l0) (hc0 : l0.length ≤ c0) (hr1 : Kd.C Kd.string w A1 l1.length l1) (hc1 : l1.length ≤ c1) (h : bonsairef04_Same.f k l0 l1 = some r) :
    Calls Try.prog 69 #[.slice A0 l0.length c0, .slice A1 l1.length c1] w fun e w' => e = .returned (.bool r) ∧ Drawn0 w w' := by
  have HR0 := Aside0.mk hr0
  have HC0 := Aside0.mk hc0
  clear hr0 hc0
  have HR1 := Aside0.mk hr1
  have HC1 := Aside0.mk hc1
  clear hr1 hc1
  have H : (if (l0.length : Int) = (l1.length : Int) then (bonsairef04_Same.l0 k l0 l1 0) else (some false)) = some r := h
  clear h
  by_cases c3 : (l0.length : Int) = (l1.length : Int)
  · rw [if_pos c3] at H
    have c3b0 : ((l0.length : Int) == (l1.length : Int)) = true := beq_iff_eq.mpr c3
    have c3b1 : ((l0.length : Int) != (l1.length : Int)) = false := bne_eq_false_iff_eq.mpr c3
    have c3b2 : (l0.length == l1.length) = true := by first | simpa using c3 | (simp at c3 ⊢; omega)
    clear c3
    have H' := Aside0.mk H
    clear H
    go_enter Try.func69, Try.ntmps69
    go_wp2
    repeat (go_quiet (fail); try go_wp2)
    go_loopg [5] k (fun kq v5 w' => ∃ (x5_1 : Int), v5 = .int .i64 x5_1 ∧ Aside0 (bonsairef04_Same.l0 kq l0 l1 x5_1 = some r) ∧ Aside0 (kq ≤ k) ∧ Drawn0 w w')
    case atStart => exact ⟨(0), (by first | rfl | (simp; done) | (simp [*]; done)), H', ⟨Nat.le_refl _⟩, by repeat (first | exact Drawn0.refl _ | apply Drawn0.step)⟩
    case round =>
      clear H'
      try clear c1
      try clear p2
      try clear c3
      try clear c3b0
      try clear c3b1
      try clear c3b2
      obtain ⟨x5_1, rfl, HA, HK1, ⟨m1, rfl⟩⟩ := hrel
      cases gk with
      | zero => exact absurd HA.out (by simp [bonsairef04_Same.l0])
      | succ k1 =>
        have H := HA.out
        clear HA
        simp only [bonsairef04_Same.l0] at H
        by_cases c4 : x5_1 < (l0.length : Int)
        · rw [if_pos c4] at H
          have c4b0 : decide (x5_1 < (l0.length : Int)) = true := decide_eq_true c4
          clear c4
          by_cases c5 : 0 ≤ x5_1
          · rw [if_pos c5] at H
            have c5b0 : decide (0 ≤ x5_1) = true := decide_eq_true c5
            clear c5
            by_cases c6 : x5_1 < (l1.length : Int)
            · rw [if_pos c6] at H
              have c6b0 : decide (x5_1 < (l1.length : Int)) = true := decide_eq_true c6
              clear c6
              by_cases c7 : (rdOf ByteArray.empty l0 x5_1).toList = (rdOf ByteArray.empty l1 x5_1).toList
              · rw [if_pos c7] at H
                have c7b0 : ((rdOf ByteArray.empty l0 x5_1).toList == (rdOf ByteArray.empty l1 x5_1).toList) = true := beq_iff_eq.mpr c7
                have c7b1 : ((rdOf ByteArray.empty l0 x5_1).toList != (rdOf ByteArray.empty l1 x5_1).toList) = false := bne_eq_false_iff_eq.mpr c7
                clear c7
                have H' := Aside0.mk H
                clear H
                have p779 : 0 ≤ (x5_1 : Int) := of_decide_eq_true (by first | (with_reducible assumption) | assumption)
                have q779 : x5_1 < (l0.length : Int) := of_decide_eq_true (by first | (with_reducible assumption) | assumption)
                obtain ⟨ad779, e779, hx779_0⟩ := Kd.at_string HR0.out x5_1 p779 q779
                cases e779
                replace p779 := eq_true p779
                replace q779 := eq_true q779
                have p780 : 0 ≤ (x5_1 : Int) := of_decide_eq_true (by first | (with_reducible assumption) | assumption)
                have q780 : x5_1 < (l1.length : Int) := of_decide_eq_true (by first | (with_reducible assumption) | assumption)
                obtain ⟨ad780, e780, hx780_0⟩ := Kd.at_string HR1.out x5_1 p780 q780
                cases e780
                replace p780 := eq_true p780
                replace q780 := eq_true q780
                go_wp2
                repeat (go_quiet (fail); try go_wp2)
                go_roundg k1
                case measure => have := HK1.out; omega
                case rel => exact ⟨(wrap64 (x5_1 + 1)), (by first | rfl | (simp; done) | (simp [*]; done)), H', ⟨by have := HK1.out; omega⟩, by repeat (first | exact Drawn0.refl _ | apply Drawn0.step)⟩
              · rw [if_neg c7] at H
                have c7b0 : ((rdOf ByteArray.empty l0 x5_1).toList == (rdOf ByteArray.empty l1 x5_1).toList) = false := beq_eq_false_iff_ne.mpr c7
                have c7b1 : ((rdOf ByteArray.empty l0 x5_1).toList != (rdOf ByteArray.empty l1 x5_1).toList) = true := bne_iff_ne.mpr c7
                obtain rfl := Option.some.inj H
                have p779 : 0 ≤ (x5_1 : Int) := of_decide_eq_true (by first | (with_reducible assumption) | assumption)
                have q779 : x5_1 < (l0.length : Int) := of_decide_eq_true (by first | (with_reducible assumption) | assumption)
                obtain ⟨ad779, e779, hx779_0⟩ := Kd.at_string HR0.out x5_1 p779 q779
                cases e779
                replace p779 := eq_true p779
                replace q779 := eq_true q779
                have p780 : 0 ≤ (x5_1 : Int) := of_decide_eq_true (by first | (with_reducible assumption) | assumption)
                have q780 : x5_1 < (l1.length : Int) := of_decide_eq_true (by first | (with_reducible assumption) | assumption)
                obtain ⟨ad780, e780, hx780_0⟩ := Kd.at_string HR1.out x5_1 p780 q780
                cases e780
                replace p780 := eq_true p780
                replace q780 := eq_true q780
                go_wp2
                repeat (go_quiet (fail); try go_wp2)
                go_ret
                exact ⟨by first | rfl | (simp; done) | (simp [*]; done), by repeat (first | exact Drawn0.refl _ | apply Drawn0.step)⟩
            · rw [if_neg c6] at H
              exact absurd H (by simp)
          · rw [if_neg c5] at H
            exact absurd H (by simp)
        · rw [if_neg c4] at H
          have c4b0 : decide (x5_1 < (l0.length : Int)) = false := decide_eq_false c4
          clear c4
          obtain rfl := Option.some.inj H
          go_wp2
          repeat (go_quiet (fail); try go_wp2)
          go_ret
          exact ⟨by first | rfl | (simp; done) | (simp [*]; done), by repeat (first | exact Drawn0.refl _ | apply Drawn0.step)⟩
  · rw [if_neg c3] at H
    have c3b0 : ((l0.length : Int) == (l1.length : Int)) = false := beq_eq_false_iff_ne.mpr c3
    have c3b1 : ((l0.length : Int) != (l1.length : Int)) = true := bne_iff_ne.mpr c3
    have c3b2 : (l0.length == l1.length) = false := by first | simpa using c3 | (simp at c3 ⊢; omega)
    obtain rfl := Option.some.inj H
    go_enter Try.func69, Try.ntmps69
    go_wp2
    repeat (go_quiet (fail); try go_wp2)
    go_ret
    exact ⟨by first | rfl | (simp; done) | (simp [*]; done), by repeat (first | exact Drawn0.refl _ | apply Drawn0.step)⟩
def dict_Encode.g (k : Nat) : List ByteArray → ByteArray → Option ByteArray
  | [], acc => some acc
  | x :: xs, acc => (word_Put.f k x).bind fun a => if acc.size + a.size ≤ 140737488355328 then dict_Encode.g k xs (acc ++ a) else none
def dict_Encode.f (k : Nat) (l0 : List ByteArray) : Option ByteArray := (dict_Words.f l0).bind fun p => if p.1.length < 4611686018427387904 then (pack_Put.f k (IntKind.u64.wrap (p.1.length : Int))).bind fun a => if a.size ≤ 140737488355328 then (dict_Encode.g k p.1 a).bind fun acc => (runs_Encode.f k p.2).bind fun e => if acc.size + e.size ≤ 140737488355328 then some (acc ++ e) else none else none else none
theorem dict_Encode.mono : ∀ a0 k, LeO (dict_Encode.f k a0) (dict_Encode.f (k + 1) a0) := by
  have hg : ∀ (k : Nat) (l : List ByteArray) (acc : ByteArray), LeO (dict_Encode.g k l acc) (dict_Encode.g (k + 1) l acc) := by
    intro k l
    induction l with
    | nil => intro acc; exact LeO.refl _
    | cons x xs ih =>
      intro acc
      unfold dict_Encode.g
      refine LeO.bind (word_Put.mono _ _) fun a => LeO.ite (ih _) (LeO.refl _)
  intro a0 k
  exact LeO.bind (LeO.refl _) fun p => LeO.ite (LeO.bind (pack_Put.mono _ _) fun a => LeO.ite (LeO.bind (hg k _ _) fun acc => LeO.bind (runs_Encode.mono _ _) fun e => LeO.refl _) (LeO.refl _)) (LeO.refl _)
set_option maxHeartbeats 8000000 in
set_option maxRecDepth 100000 in
theorem dict_Encode.calls (k : Nat) (A0 : Option Addr) (c0 : Nat) (l0 : List ByteArray) (r : ByteArray) (w : World) (hr0 : Kd.C Kd.string w A0 l0.length l0) (hc0 : l0.length ≤ c0) (h : dict_Encode.f k l0 = some r) :
    Calls Try.prog 70 #[.slice A0 l0.length c0] w fun e w' => e = .returned (.string r) ∧ Below w.heap.size w w' := by
  have H := h
  clear h
  unfold dict_Encode.f at H
  obtain ⟨⟨t, q⟩, A20, H⟩ := Option.bind_eq_some_iff.mp H
  have A2 := Aside0.mk A20
  by_cases hlen : t.length < 4611686018427387904
  case neg => rw [if_neg hlen] at H; exact absurd H (by simp)
  rw [if_pos hlen] at H
  obtain ⟨a, A30, H⟩ := Option.bind_eq_some_iff.mp H
  have A3 := Aside0.mk A30
  by_cases haz : a.size ≤ 140737488355328
  case neg => rw [if_neg haz] at H; exact absurd H (by simp)
  rw [if_pos haz] at H
  obtain ⟨acc0, A40, H⟩ := Option.bind_eq_some_iff.mp H
  obtain ⟨en, A50, H⟩ := Option.bind_eq_some_iff.mp H
  by_cases hez : acc0.size + en.size ≤ 140737488355328
  case neg => rw [if_neg hez] at H; exact absurd H (by simp)
  rw [if_pos hez] at H
  obtain rfl := Option.some.inj H
  have A4 := Aside0.mk A40
  have A5 := Aside0.mk A50
  have LM := Aside0.mk hlen
  have LA := Aside0.mk haz
  have LE := Aside0.mk hez
  have HR0 := Aside0.mk hr0
  have HC0 := Aside0.mk hc0
  clear A20 A30 A40 A50 H hr0 hc0 hlen haz hez
  go_enter Try.func70, Try.ntmps70
  go_wp2_with (first | (go_at_call 65; (with_reducible refine (dict_Words.calls _ _ l0 t q _ HR0.out HC0.out A2.out).mono ?_); rintro e w3 ⟨v0, v1, rfl, ho0, ho1, hb⟩; obtain ⟨Ao4, co4, eo4⟩ := Kd.R_slice ho0; obtain ⟨Ao5, co5, eo5⟩ := Kd.R_slice ho1; subst eo4; subst eo5; have HO := Aside0.mk ho0; have HQ := Aside0.mk ho1; have HB := Aside0.mk hb; clear ho0 ho1 hb) | (go_at_call 78; (with_reducible refine (pack_Put.calls k _ a _ A3.out).mono ?_); rintro e w5 ⟨rfl, hb⟩; have HBl := Aside0.mk ((Build.Bld.fresh w3).below hb); have n0_ := Aside0.mk (Kd.R_below (Kd.R_alloc HO.out _) hb); have n1_ := Aside0.mk (Kd.R_below (Kd.R_alloc HQ.out _) hb); have n2_ := Aside0.mk (below_step (below_alloc HB.out _) hb); have HGE := Aside0.mk (below_size HB.out); have HGS := Aside0.mk (show w3.heap.size ≤ w5.heap.size from Nat.le_trans (by show _ ≤ (w3.heap.push _).size; simp) hb.size); clear HO HQ HB hb; have HO := n0_; have HQ := n1_; have HB := n2_; clear n0_ n1_ n2_) | (go_at_call 90; (with_reducible refine (Build.write w3.heap.size w3.heap.size ByteArray.empty a _ HBl.out (by have := LA.out; have h_ : ByteArray.empty.size = 0 := rfl; omega) HGS.out).mono ?_); rintro e w6 ⟨rfl, hbl, hb, hk⟩; have n0_ := Aside0.mk (Build.R_kept HO.out hk HBl.out.block (by decide)); have n1_ := Aside0.mk (Build.R_kept HQ.out hk HBl.out.block (by decide)); have n2_ := Aside0.mk (below_weaken HB.out HGE.out hb); have n3_ := Aside0.mk (Nat.le_trans HGS.out hb.size); clear HBl HO HQ HB HGS hb hk; have HBl := Aside0.mk hbl; have HO := n0_; have HQ := n1_; have HB := n2_; have HGS := n3_; clear n0_ n1_ n2_ n3_ hbl))
  generalize hbm : w3.heap.size = bm at HBl HGE HGS ⊢
  clear hbm
  have HE := Aside0.mk (show ByteArray.empty ++ a = a by apply ByteArray.ext; simp)
  go_loopg [20] (t.length + 1) (fun kq v9 w' => ∃ (x9 : Int) (acc : ByteArray), v9 = .int .i64 x9 ∧ Aside0 (0 ≤ x9 ∧ x9 ≤ t.length ∧ (kq : Int) + x9 = t.length + 1) ∧ Aside0 (dict_Encode.g k (t.drop x9.toNat) acc = some acc0) ∧ Aside0 (Build.Bld bm bm acc w') ∧ Aside0 (Kd.R Kd.string 9 w' w.heap.size (fun _ => True) (.slice Ao4 t.length co4) t) ∧ Aside0 (Kd.R (Kd.int .u64) 51 w' w.heap.size (fun _ => True) (.slice Ao5 q.length co5) q) ∧ Aside0 (Below w.heap.size w w') ∧ Aside0 (bm ≤ w'.heap.size))
  case atStart => exact ⟨0, a, by simp, ⟨by omega⟩, A4, ⟨by rw [← HE.out]; exact HBl.out⟩, HO, HQ, HB, HGS⟩
  case round =>
    clear HO HQ HB HBl HGS
    obtain ⟨x9, acc, rfl, HK, HG, HBl, HO, HQ, HB, HGS⟩ := hrel
    cases gk with
    | zero => have := HK.out; exact absurd this (by omega)
    | succ k1 =>
      by_cases hi : x9 < (t.length : Int)
      · have c5b0 : decide (x9 < (t.length : Int)) = true := decide_eq_true (by omega)
        have hk9 := HK.out
        have hdrop : t.drop x9.toNat = rdOf ByteArray.empty t x9 :: t.drop (x9.toNat + 1) := by
          rw [List.drop_eq_getElem_cons (show x9.toNat < t.length by omega)]
          congr 1
          unfold rdOf
          simp [List.getD_eq_getElem?_getD, show x9.toNat < t.length by omega]
        have hG := HG.out
        clear HG
        rw [hdrop] at hG
        unfold dict_Encode.g at hG
        obtain ⟨b, A60, hG⟩ := Option.bind_eq_some_iff.mp hG
        by_cases hz : acc.size + b.size ≤ 140737488355328
        · rw [if_pos hz] at hG
          have H' := Aside0.mk hG
          have A6 := Aside0.mk A60
          have LZ := Aside0.mk hz
          clear hG A60 hdrop hz
          have p290 : 0 ≤ x9 := by omega
          have q290 : x9 < (t.length : Int) := by omega
          obtain ⟨ad290, e290, hx290_0⟩ := Kd.at_string (Kd.R_reads' HO.out).2.2 x9 p290 q290
          cases e290
          have hi0 := Aside0.mk hi
          clear hi hk9
          replace p290 := eq_true p290
          replace q290 := eq_true q290
          go_wp2_with (first | (go_at_call 33; (with_reducible refine (word_Put.calls k _ b _ A6.out).mono ?_); rintro e w5 ⟨rfl, hb⟩; have n0_ := Aside0.mk (HBl.out.below hb); have n1_ := Aside0.mk (Kd.R_below HO.out hb); have n2_ := Aside0.mk (Kd.R_below HQ.out hb); have n3_ := Aside0.mk (below_step HB.out hb); have n4_ := Aside0.mk (Nat.le_trans HGS.out hb.size); clear HBl HO HQ HB HGS hb hx290_0; have HBl := n0_; have HO := n1_; have HQ := n2_; have HB := n3_; have HGS := n4_; clear n0_ n1_ n2_ n3_ n4_) | (go_at_call 90; (with_reducible refine (Build.write bm bm acc b _ HBl.out LZ.out HGS.out).mono ?_); rintro e w6 ⟨rfl, hbl, hb, hk⟩; have n0_ := Aside0.mk (Build.R_kept HO.out hk HBl.out.block (by decide)); have n1_ := Aside0.mk (Build.R_kept HQ.out hk HBl.out.block (by decide)); have n2_ := Aside0.mk (below_weaken HB.out HGE.out hb); have n3_ := Aside0.mk (Nat.le_trans HGS.out hb.size); clear HBl HO HQ HB HGS hb hk; have HBl := Aside0.mk hbl; have HO := n0_; have HQ := n1_; have HB := n2_; have HGS := n3_; clear n0_ n1_ n2_ n3_ hbl))
          go_roundg k1
          case measure => have := HK.out; omega
          case rel => exact ⟨wrap64 (x9 + 1), acc ++ b, (by first | rfl | (simp; done) | (simp [*]; done)), ⟨by have := HK.out; have := hi0.out; have := LM.out; unfold wrap64; omega⟩, ⟨by rw [show (wrap64 (x9 + 1)).toNat = x9.toNat + 1 by have := HK.out; have := LM.out; unfold wrap64; omega]; exact H'.out⟩, HBl, HO, HQ, HB, HGS⟩
        · rw [if_neg hz] at hG
          exact absurd hG (by simp)
      · have c5b0 : decide (x9 < (t.length : Int)) = false := decide_eq_false hi
        have hk9 := HK.out
        have hG := HG.out
        rw [List.drop_eq_nil_of_le (by omega)] at hG
        unfold dict_Encode.g at hG
        obtain rfl := Option.some.inj hG
        clear hG HG hi hk9
        go_wp2_with (first | (go_at_call 44; (with_reducible refine (runs_Encode.calls k _ _ q en _ (Kd.R_reads' HQ.out).2.2 (Kd.R_reads' HQ.out).2.1 A5.out).mono ?_); rintro e w5 ⟨rfl, hb⟩; have n0_ := Aside0.mk (HBl.out.below hb); have n3_ := Aside0.mk (below_step HB.out hb); have n4_ := Aside0.mk (Nat.le_trans HGS.out hb.size); clear HBl HO HQ HB HGS hb; have HBl := n0_; have HB := n3_; have HGS := n4_; clear n0_ n3_ n4_) | (go_at_call 90; (with_reducible refine (Build.write bm bm acc en _ HBl.out LE.out HGS.out).mono ?_); rintro e w6 ⟨rfl, hbl, hb, hk⟩; have n2_ := Aside0.mk (below_weaken HB.out HGE.out hb); have n3_ := Aside0.mk (Nat.le_trans HGS.out hb.size); clear HBl HB HGS hb hk; have HBl := Aside0.mk hbl; have HB := n2_; have HGS := n3_; clear n2_ n3_ hbl) | (go_at_call 91; (with_reducible refine (Build.string bm bm (acc ++ en) _ HBl.out HGS.out).mono ?_); rintro e w9 ⟨rfl, hb, hk⟩; have n2_ := Aside0.mk (below_weaken HB.out HGE.out hb); clear HB; have HB := n2_; clear n2_))
        go_ret
        exact ⟨rfl, HB.out⟩
end Go.Proofs.Ytbgjoiccehiglaa.Print
end
