/- Part 2 of what FlagsBack stands on: merged by a program of this session out of its texts. -/
import Derived.Test.YtbgjoiccehiglaaCFlagsBack1
section
namespace Go.Proofs.Ytbgjoiccehiglaa.Print
open Go.RowKit Go.Proofs.YtbgjoiccehiglaaW.PrintWords Go.Proofs.YtbgjoiccehiglaaW.PrintLast Go.Proofs.YtbgjoiccehiglaaW.PrintMore
attribute [local go_sem] max2_int min2_int max_two min_two max_three min_three max_four min_four
set_option linter.unusedVariables false
set_option linter.unusedSimpArgs false
def flags_Count.l0 : Nat → Int → List Bool → Int → Int → Option (Int)
  | 0, _, _, _, _ => none
  | k + 1, x3, x6, x7, x8 => if x8 < x7 then (if 0 ≤ x8 then (if x8 < (x6.length : Int) then (if rdOf false x6 x8 = true then (flags_Count.l0 k (wrap64 (x3 + 1)) x6 x7 (wrap64 (x8 + 1))) else (flags_Count.l0 k x3 x6 x7 (wrap64 (x8 + 1)))) else (none)) else (none)) else (some x3)
def flags_Count.f (k : Nat) (l0 : List Bool) : Option (Int) := flags_Count.l0 k 0 l0 (l0.length : Int) 0
theorem flags_Count.mono_l : ∀ k, (∀ y0 y1 y2 y3, LeO (flags_Count.l0 k y0 y1 y2 y3) (flags_Count.l0 (k + 1) y0 y1 y2 y3))
  | 0 => fun _ _ _ _ r h => by simp [flags_Count.l0] at h
  | k + 1 => by
    have ih0 := flags_Count.mono_l k
    · intro y0 y1 y2 y3
      unfold flags_Count.l0
      repeat' first
      | (with_reducible exact ih0 _ _ _ _)
      | (with_reducible exact LeO.refl _)
      | (with_reducible exact LeO.none _)
      | (with_reducible refine LeO.ite ?_ ?_)
      | (with_reducible refine LeO.bind ?_ (fun _ => ?_))
      | exact ih0 _ _ _ _
      | exact LeO.none _
      | refine LeO.ite ?_ ?_
      | refine LeO.bind ?_ (fun _ => ?_)
theorem flags_Count.mono : ∀ a0 k, LeO (flags_Count.f k a0) (flags_Count.f (k + 1) a0) := by
  intro a0 k
  have ih0 := flags_Count.mono_l k
  unfold flags_Count.f
  repeat' first
      | (with_reducible exact ih0 _ _ _ _)
      | (with_reducible exact LeO.refl _)
      | (with_reducible exact LeO.none _)
      | (with_reducible refine LeO.ite ?_ ?_)
      | (with_reducible refine LeO.bind ?_ (fun _ => ?_))
      | exact ih0 _ _ _ _
      | exact LeO.none _
      | refine LeO.ite ?_ ?_
      | refine LeO.bind ?_ (fun _ => ?_)
set_option maxHeartbeats 8000000 in
set_option maxRecDepth 100000 in
theorem flags_Count.calls (k : Nat) (A0 : Option Addr) (c0 : Nat) (l0 : List Bool) (r : Int) (w : World) (hr0 : Kd.C Kd.bool w A0 l0.length l0) (hc0 : l0.length ≤ c0) (h : flags_Count.f k l0 = some r) :
    Calls Try.prog 59 #[.slice A0 l0.length c0] w fun e w' => e = .returned (.int .i64 r) ∧ Drawn0 w w' := by
  have HR0 := Aside0.mk hr0
  have HC0 := Aside0.mk hc0
  clear hr0 hc0
  have H : (flags_Count.l0 k 0 l0 (l0.length : Int) 0) = some r := h
  clear h
  have H' := Aside0.mk H
  clear H
  go_enter Try.func59, Try.ntmps59
  go_wp2
  go_loopg [3, 8] k (fun kq v3 v8 w' => ∃ (x3_1 : Int) (x8_1 : Int), v3 = .int .i64 x3_1 ∧ v8 = .int .i64 x8_1 ∧ Aside0 (flags_Count.l0 kq x3_1 l0 (l0.length : Int) x8_1 = some r) ∧ Aside0 (kq ≤ k) ∧ Drawn0 w w')
  case atStart => exact ⟨(0), (0), (by first | rfl | (simp; done) | (simp [*]; done)), (by first | rfl | (simp; done) | (simp [*]; done)), H', ⟨Nat.le_refl _⟩, by repeat (first | exact Drawn0.refl _ | apply Drawn0.step)⟩
  case round =>
    clear H'
    obtain ⟨x3_1, x8_1, rfl, rfl, HA, HK1, ⟨m1, rfl⟩⟩ := hrel
    cases gk with
    | zero => exact absurd HA.out (by simp [flags_Count.l0])
    | succ k1 =>
      have H := HA.out
      clear HA
      simp only [flags_Count.l0] at H
      by_cases c2 : x8_1 < (l0.length : Int)
      · rw [if_pos c2] at H
        have c2b0 : decide (x8_1 < (l0.length : Int)) = true := decide_eq_true c2
        clear c2
        by_cases c3 : 0 ≤ x8_1
        · rw [if_pos c3] at H
          have c3b0 : decide (0 ≤ x8_1) = true := decide_eq_true c3
          clear c3
          by_cases c4 : x8_1 < (l0.length : Int)
          · rw [if_pos c4] at H
            have c4b0 : decide (x8_1 < (l0.length : Int)) = true := decide_eq_true c4
            clear c4
            obtain ⟨bq5, hbq5⟩ : ∃ b_ : Bool, b_ = (rdOf false l0 x8_1) := ⟨_, rfl⟩
            replace H : (if bq5 = true then (flags_Count.l0 k1 (wrap64 (x3_1 + 1)) l0 (l0.length : Int) (wrap64 (x8_1 + 1))) else (flags_Count.l0 k1 x3_1 l0 (l0.length : Int) (wrap64 (x8_1 + 1)))) = some r := by rw [← hbq5] at H; exact H
            have Nbq5 := Aside0.mk hbq5
            clear hbq5
            by_cases c6 : bq5 = true
            · subst c6
              have H1 : (flags_Count.l0 k1 (wrap64 (x3_1 + 1)) l0 (l0.length : Int) (wrap64 (x8_1 + 1))) = some r := by rw [if_pos rfl] at H; exact H
              clear H
              have H := H1
              clear H1
              have H' := Aside0.mk H
              clear H
              have p557 : 0 ≤ (x8_1 : Int) := of_decide_eq_true (by first | (with_reducible assumption) | assumption)
              have q557 : x8_1 < (l0.length : Int) := of_decide_eq_true (by first | (with_reducible assumption) | assumption)
              obtain ⟨ad557, e557, hx557_0⟩ := Kd.at_bool HR0.out x8_1 p557 q557
              (try rw [← Nbq5.out] at hx557_0)
              cases e557
              replace p557 := eq_true p557
              replace q557 := eq_true q557
              go_wp2
              go_roundg k1
              case measure => have := HK1.out; omega
              case rel => exact ⟨(wrap64 (x3_1 + 1)), (wrap64 (x8_1 + 1)), (by first | rfl | (simp; done) | (simp [*]; done)), (by first | rfl | (simp; done) | (simp [*]; done)), H', ⟨by have := HK1.out; omega⟩, by repeat (first | exact Drawn0.refl _ | apply Drawn0.step)⟩
            · replace c6 := Bool.eq_false_iff.mpr c6
              subst c6
              have H1 : (flags_Count.l0 k1 x3_1 l0 (l0.length : Int) (wrap64 (x8_1 + 1))) = some r := by rw [if_neg (show ¬ (false = true) by decide)] at H; exact H
              clear H
              have H := H1
              clear H1
              have H' := Aside0.mk H
              clear H
              have p557 : 0 ≤ (x8_1 : Int) := of_decide_eq_true (by first | (with_reducible assumption) | assumption)
              have q557 : x8_1 < (l0.length : Int) := of_decide_eq_true (by first | (with_reducible assumption) | assumption)
              obtain ⟨ad557, e557, hx557_0⟩ := Kd.at_bool HR0.out x8_1 p557 q557
              (try rw [← Nbq5.out] at hx557_0)
              cases e557
              replace p557 := eq_true p557
              replace q557 := eq_true q557
              go_wp2
              go_roundg k1
              case measure => have := HK1.out; omega
              case rel => exact ⟨(x3_1), (wrap64 (x8_1 + 1)), (by first | rfl | (simp; done) | (simp [*]; done)), (by first | rfl | (simp; done) | (simp [*]; done)), H', ⟨by have := HK1.out; omega⟩, by repeat (first | exact Drawn0.refl _ | apply Drawn0.step)⟩
          · rw [if_neg c4] at H
            exact absurd H (by simp)
        · rw [if_neg c3] at H
          exact absurd H (by simp)
      · rw [if_neg c2] at H
        have c2b0 : decide (x8_1 < (l0.length : Int)) = false := decide_eq_false c2
        clear c2
        obtain rfl := Option.some.inj H
        go_wp2
        go_ret
        exact ⟨by first | rfl | (simp; done) | (simp [*]; done), by repeat (first | exact Drawn0.refl _ | apply Drawn0.step)⟩
def bonsairef07_Same.l0 : Nat → List Bool → List Bool → Int → Option (Bool)
  | 0, _, _, _ => none
  | k + 1, x0, x1, x5 => if x5 < (x0.length : Int) then (if 0 ≤ x5 then (if x5 < (x1.length : Int) then (if ((rdOf false x0 x5) != (rdOf false x1 x5)) = true then (some false) else (bonsairef07_Same.l0 k x0 x1 (wrap64 (x5 + 1)))) else (none)) else (none)) else (some true)
def bonsairef07_Same.f (k : Nat) (l0 : List Bool) (l1 : List Bool) : Option (Bool) := if (l0.length : Int) = (l1.length : Int) then (bonsairef07_Same.l0 k l0 l1 0) else (some false)
theorem bonsairef07_Same.mono_l : ∀ k, (∀ y0 y1 y2, LeO (bonsairef07_Same.l0 k y0 y1 y2) (bonsairef07_Same.l0 (k + 1) y0 y1 y2))
  | 0 => fun _ _ _ r h => by simp [bonsairef07_Same.l0] at h
  | k + 1 => by
    have ih0 := bonsairef07_Same.mono_l k
    · intro y0 y1 y2
      unfold bonsairef07_Same.l0
      repeat' first
      | (with_reducible exact ih0 _ _ _)
      | (with_reducible exact LeO.refl _)
      | (with_reducible exact LeO.none _)
      | (with_reducible refine LeO.ite ?_ ?_)
      | (with_reducible refine LeO.bind ?_ (fun _ => ?_))
      | exact ih0 _ _ _
      | exact LeO.none _
      | refine LeO.ite ?_ ?_
      | refine LeO.bind ?_ (fun _ => ?_)
theorem bonsairef07_Same.mono : ∀ a0 a1 k, LeO (bonsairef07_Same.f k a0 a1) (bonsairef07_Same.f (k + 1) a0 a1) := by
  intro a0 a1 k
  have ih0 := bonsairef07_Same.mono_l k
  unfold bonsairef07_Same.f
  repeat' first
      | (with_reducible exact ih0 _ _ _)
      | (with_reducible exact LeO.refl _)
      | (with_reducible exact LeO.none _)
      | (with_reducible refine LeO.ite ?_ ?_)
      | (with_reducible refine LeO.bind ?_ (fun _ => ?_))
      | exact ih0 _ _ _
      | exact LeO.none _
      | refine LeO.ite ?_ ?_
      | refine LeO.bind ?_ (fun _ => ?_)
set_option maxHeartbeats 8000000 in
set_option maxRecDepth 100000 in
theorem bonsairef07_Same.calls (k : Nat) (A0 : Option Addr) (c0 : Nat) (l0 : List Bool) (A1 : Option Addr) (c1 : Nat) (l1 : List Bool) (r : Bool) (w : World) (hr0 : Kd.C Kd.bool w A0 l0.length l0) (hc0 : l0.length ≤ c0) (hr1 : Kd.C Kd.bool w A1 l1.length l1) (hc1 : l1.length ≤ c1) (h : bonsairef07_Same.f k l0 l1 = some r) :
    Calls Try.prog 61 #[.slice A0 l0.length c0, .slice A1 l1.length c1] w fun e w' => e = .returned (.bool r) ∧ Drawn0 w w' := by
  have HR0 := Aside0.mk hr0
  have HC0 := Aside0.mk hc0
  clear hr0 hc0
  have HR1 := Aside0.mk hr1
  have HC1 := Aside0.mk hc1
  clear hr1 hc1
  have H : (if (l0.length : Int) = (l1.length : Int) then (bonsairef07_Same.l0 k l0 l1 0) else (some false)) = some r := h
  clear h
  by_cases c3 : (l0.length : Int) = (l1.length : Int)
  · rw [if_pos c3] at H
    have c3b0 : ((l0.length : Int) == (l1.length : Int)) = true := beq_iff_eq.mpr c3
    have c3b1 : ((l0.length : Int) != (l1.length : Int)) = false := bne_eq_false_iff_eq.mpr c3
    have c3b2 : (l0.length == l1.length) = true := by first | simpa using c3 | (simp at c3 ⊢; omega)
    clear c3
    have H' := Aside0.mk H
    clear H
    go_enter Try.func61, Try.ntmps61
    go_wp2
    repeat (go_quiet (fail); try go_wp2)
    go_loopg [5] k (fun kq v5 w' => ∃ (x5_1 : Int), v5 = .int .i64 x5_1 ∧ Aside0 (bonsairef07_Same.l0 kq l0 l1 x5_1 = some r) ∧ Aside0 (kq ≤ k) ∧ Drawn0 w w')
    case atStart => exact ⟨(0), (by first | rfl | (simp; done) | (simp [*]; done)), H', ⟨Nat.le_refl _⟩, by repeat (first | exact Drawn0.refl _ | apply Drawn0.step)⟩
    case round =>
      clear H'
      try clear c1
      try clear p2
      try clear c3
      try clear c3b0
      try clear c3b1
      try clear c3b2
      obtain ⟨x5_1, rfl, HA, HK1, ⟨m1, rfl⟩⟩ := hrel
      cases gk with
      | zero => exact absurd HA.out (by simp [bonsairef07_Same.l0])
      | succ k1 =>
        have H := HA.out
        clear HA
        simp only [bonsairef07_Same.l0] at H
        by_cases c4 : x5_1 < (l0.length : Int)
        · rw [if_pos c4] at H
          have c4b0 : decide (x5_1 < (l0.length : Int)) = true := decide_eq_true c4
          clear c4
          by_cases c5 : 0 ≤ x5_1
          · rw [if_pos c5] at H
            have c5b0 : decide (0 ≤ x5_1) = true := decide_eq_true c5
            clear c5
            by_cases c6 : x5_1 < (l1.length : Int)
            · rw [if_pos c6] at H
              have c6b0 : decide (x5_1 < (l1.length : Int)) = true := decide_eq_true c6
              clear c6
              by_cases c7 : ((rdOf false l0 x5_1) != (rdOf false l1 x5_1)) = true
              · rw [if_pos c7] at H
                have c7b0 : ((rdOf false l0 x5_1) != (rdOf false l1 x5_1)) = true := c7
                (try (have c7b1 : decide ((rdOf false l0 x5_1) = (rdOf false l1 x5_1)) = false := by simpa using c7))
                (try (have c7b2 : ((rdOf false l0 x5_1) == (rdOf false l1 x5_1)) = false := by simpa using c7))
                (try (have c7b3 : ¬ ((rdOf false l0 x5_1) = (rdOf false l1 x5_1)) := by simpa using c7))
                clear c7
                obtain rfl := Option.some.inj H
                have p558 : 0 ≤ (x5_1 : Int) := of_decide_eq_true (by first | (with_reducible assumption) | assumption)
                have q558 : x5_1 < (l0.length : Int) := of_decide_eq_true (by first | (with_reducible assumption) | assumption)
                obtain ⟨ad558, e558, hx558_0⟩ := Kd.at_bool HR0.out x5_1 p558 q558
                cases e558
                replace p558 := eq_true p558
                replace q558 := eq_true q558
                have p559 : 0 ≤ (x5_1 : Int) := of_decide_eq_true (by first | (with_reducible assumption) | assumption)
                have q559 : x5_1 < (l1.length : Int) := of_decide_eq_true (by first | (with_reducible assumption) | assumption)
                obtain ⟨ad559, e559, hx559_0⟩ := Kd.at_bool HR1.out x5_1 p559 q559
                cases e559
                replace p559 := eq_true p559
                replace q559 := eq_true q559
                go_wp2
                repeat (go_quiet (fail); try go_wp2)
                go_ret
                exact ⟨by first | rfl | (simp; done) | (simp [*]; done), by repeat (first | exact Drawn0.refl _ | apply Drawn0.step)⟩
              · rw [if_neg c7] at H
                have c7b0 : ((rdOf false l0 x5_1) != (rdOf false l1 x5_1)) = false := by simpa using c7
                (try (have c7b1 : decide ((rdOf false l0 x5_1) = (rdOf false l1 x5_1)) = true := by simpa using c7))
                (try (have c7b2 : ((rdOf false l0 x5_1) == (rdOf false l1 x5_1)) = true := by simpa using c7))
                clear c7
                have H' := Aside0.mk H
                clear H
                have p558 : 0 ≤ (x5_1 : Int) := of_decide_eq_true (by first | (with_reducible assumption) | assumption)
                have q558 : x5_1 < (l0.length : Int) := of_decide_eq_true (by first | (with_reducible assumption) | assumption)
                obtain ⟨ad558, e558, hx558_0⟩ := Kd.at_bool HR0.out x5_1 p558 q558
                cases e558
                replace p558 := eq_true p558
                replace q558 := eq_true q558
                have p559 : 0 ≤ (x5_1 : Int) := of_decide_eq_true (by first | (with_reducible assumption) | assumption)
                have q559 : x5_1 < (l1.length : Int) := of_decide_eq_true (by first | (with_reducible assumption) | assumption)
                obtain ⟨ad559, e559, hx559_0⟩ := Kd.at_bool HR1.out x5_1 p559 q559
                cases e559
                replace p559 := eq_true p559
                replace q559 := eq_true q559
                go_wp2
                repeat (go_quiet (fail); try go_wp2)
                go_roundg k1
                case measure => have := HK1.out; omega
                case rel => exact ⟨(wrap64 (x5_1 + 1)), (by first | rfl | (simp; done) | (simp [*]; done)), H', ⟨by have := HK1.out; omega⟩, by repeat (first | exact Drawn0.refl _ | apply Drawn0.step)⟩
            · rw [if_neg c6] at H
              exact absurd H (by simp)
          · rw [if_neg c5] at H
            exact absurd H (by simp)
        · rw [if_neg c4] at H
          have c4b0 : decide (x5_1 < (l0.length : Int)) = false := decide_eq_false c4
          clear c4
          obtain rfl := Option.some.inj H
          go_wp2
          repeat (go_quiet (fail); try go_wp2)
          go_ret
          exact ⟨by first | rfl | (simp; done) | (simp [*]; done), by repeat (first | exact Drawn0.refl _ | apply Drawn0.step)⟩
  · rw [if_neg c3] at H
    have c3b0 : ((l0.length : Int) == (l1.length : Int)) = false := beq_eq_false_iff_ne.mpr c3
    have c3b1 : ((l0.length : Int) != (l1.length : Int)) = true := bne_iff_ne.mpr c3
    have c3b2 : (l0.length == l1.length) = false := by first | simpa using c3 | (simp at c3 ⊢; omega)
    obtain rfl := Option.some.inj H
    go_enter Try.func61, Try.ntmps61
    go_wp2
    repeat (go_quiet (fail); try go_wp2)
    go_ret
    exact ⟨by first | rfl | (simp; done) | (simp [*]; done), by repeat (first | exact Drawn0.refl _ | apply Drawn0.step)⟩
def flags_Decode.l0 : Nat → Int → List Int → Int → ByteArray → Int → Option (List Bool × Int)
  | 0, _, _, _, _, _ => none
  | k + 1, x1, x7, x8, x563000, x563001 => (pack_Reader_Left.f x563000 x563001).bind fun bt563 => (if bt563.1 > 0 then ((pack_Reader_Num.f bt563.2.1 bt563.2.2).bind fun bt570 => ((pack_Reader_Err.f bt570.2.1 bt570.2.2).bind fun bt573 => (if bt573.1 = 0 then (if bt570.1 > (IntKind.u64.wrap (x8)) then (some (([] : List Bool), 5)) else (if bt570.1 = 0 then (if (x7.length : Int) > 0 then (some (([] : List Bool), 5)) else (if x7.length < 17592186044416 then (flags_Decode.l0 k x1 (x7 ++ [wrap64 (bt570.1)]) (wrap64 (x8 - (wrap64 (bt570.1)))) bt573.2.1 bt573.2.2) else (none))) else (if x7.length < 17592186044416 then (flags_Decode.l0 k x1 (x7 ++ [wrap64 (bt570.1)]) (wrap64 (x8 - (wrap64 (bt570.1)))) bt573.2.1 bt573.2.2) else (none)))) else (some (([] : List Bool), bt573.1))))) else ((flags_Spread.f k x7 x1).bind fun bt566 => (if bt566.2 = true then (if x8 > 0 then (some (([] : List Bool), 5)) else (some (bt566.1, 0))) else (some (([] : List Bool), 5)))))
def flags_Decode.f (k : Nat) (a0 : ByteArray) (a1 : Int) : Option (List Bool × Int) := if a1 < 0 then (some (([] : List Bool), 1)) else (if a1 > 4096 then (some (([] : List Bool), 10)) else ((pack_New.f a0).bind fun bt560 => (flags_Decode.l0 k a1 ([] : List Int) a1 bt560.1 bt560.2)))
theorem flags_Decode.mono_l : ∀ k, (∀ y0 y1 y2 y3 y4, LeO (flags_Decode.l0 k y0 y1 y2 y3 y4) (flags_Decode.l0 (k + 1) y0 y1 y2 y3 y4))
  | 0 => fun _ _ _ _ _ r h => by simp [flags_Decode.l0] at h
  | k + 1 => by
    have ih0 := flags_Decode.mono_l k
    · intro y0 y1 y2 y3 y4
      unfold flags_Decode.l0
      repeat' first
      | (with_reducible exact ih0 _ _ _ _ _)
      | (with_reducible exact flags_Spread.mono _ _ _)
      | (with_reducible exact LeO.refl _)
      | (with_reducible exact LeO.none _)
      | (with_reducible refine LeO.ite ?_ ?_)
      | (with_reducible refine LeO.bind ?_ (fun _ => ?_))
      | exact ih0 _ _ _ _ _
      | exact flags_Spread.mono _ _ _
      | exact LeO.none _
      | refine LeO.ite ?_ ?_
      | refine LeO.bind ?_ (fun _ => ?_)
theorem flags_Decode.mono : ∀ a0 a1 k, LeO (flags_Decode.f k a0 a1) (flags_Decode.f (k + 1) a0 a1) := by
  intro a0 a1 k
  have ih0 := flags_Decode.mono_l k
  unfold flags_Decode.f
  repeat' first
      | (with_reducible exact ih0 _ _ _ _ _)
      | (with_reducible exact flags_Spread.mono _ _ _)
      | (with_reducible exact LeO.refl _)
      | (with_reducible exact LeO.none _)
      | (with_reducible refine LeO.ite ?_ ?_)
      | (with_reducible refine LeO.bind ?_ (fun _ => ?_))
      | exact ih0 _ _ _ _ _
      | exact flags_Spread.mono _ _ _
      | exact LeO.none _
      | refine LeO.ite ?_ ?_
      | refine LeO.bind ?_ (fun _ => ?_)
set_option maxHeartbeats 8000000 in
set_option maxRecDepth 100000 in
theorem flags_Decode.calls (k : Nat) (a0 : ByteArray) (a1 : Int) (r1 : List Bool) (r2 : Int) (w : World) (h : flags_Decode.f k a0 a1 = some (r1, r2)) :
    Calls Try.prog 62 #[.string a0, .int .i64 a1] w fun e w' => ∃ v0_ : Value, e = .returned (.tuple #[v0_, .int .i64 r2]) ∧ Kd.R Kd.bool 4 w' w.heap.size (fun _ => True) v0_ r1 ∧ Below w.heap.size w w' := by
  have HB := Aside0.mk (Below.refl w.heap.size w)
  have H : (if a1 < 0 then (some (([] : List Bool), 1)) else (if a1 > 4096 then (some (([] : List Bool), 10)) else ((pack_New.f a0).bind fun bt560 => (flags_Decode.l0 k a1 ([] : List Int) a1 bt560.1 bt560.2)))) = some (r1, r2) := h
  clear h
  by_cases c3 : a1 < 0
  · rw [if_pos c3] at H
    have c3b0 : decide (a1 < 0) = true := decide_eq_true c3
    clear c3
    simp only [Option.some.injEq, Prod.mk.injEq] at H
    obtain ⟨rfl, rfl⟩ := H
    go_enter Try.func62, Try.ntmps62
    go_wp2
    go_ret2
    exact ⟨_, by first | rfl | (simp [errW_none, errW_some] <;> rfl) | (simp [*, errW_none, errW_some] <;> rfl), by first | exact Kd.R_nil _ _ _ _ _ | exact Kd.N_nil _ _ _ _ _ | exact Kd.V_nil _ _ _ _ _ | exact Kd.Q_nil _ _ _ _ _ | exact Kd.S_nil _ _ _ _ _, by repeat (first | (with_reducible first | exact HB.out | apply below_alloc | apply pw_below_drewN | apply below_drew1) | exact HB.out)⟩
  · rw [if_neg c3] at H
    have c3b0 : decide (a1 < 0) = false := decide_eq_false c3
    clear c3
    by_cases c4 : a1 > 4096
    · rw [if_pos c4] at H
      have c4b0 : decide (4096 < a1) = true := decide_eq_true c4
      clear c4
      simp only [Option.some.injEq, Prod.mk.injEq] at H
      obtain ⟨rfl, rfl⟩ := H
      go_enter Try.func62, Try.ntmps62
      go_wp2
      go_ret2
      exact ⟨_, by first | rfl | (simp [errW_none, errW_some] <;> rfl) | (simp [*, errW_none, errW_some] <;> rfl), by first | exact Kd.R_nil _ _ _ _ _ | exact Kd.N_nil _ _ _ _ _ | exact Kd.V_nil _ _ _ _ _ | exact Kd.Q_nil _ _ _ _ _ | exact Kd.S_nil _ _ _ _ _, by repeat (first | (with_reducible first | exact HB.out | apply below_alloc | apply pw_below_drewN | apply below_drew1) | exact HB.out)⟩
    · rw [if_neg c4] at H
      have c4b0 : decide (4096 < a1) = false := decide_eq_false c4
      clear c4
      replace H := Option.bind_eq_some_iff.mp H
      obtain ⟨⟨t560, t561⟩, A50, H⟩ := H
      replace H : (flags_Decode.l0 k a1 ([] : List Int) a1 t560 t561) = some (r1, r2) := H
      have A5 := Aside0.mk A50
      clear A50
      have H' := Aside0.mk H
      clear H
      go_enter Try.func62, Try.ntmps62
      go_wp2_with (first | ((with_reducible refine gate_callee (f := 80) rfl ?_); refine goesL_ (some 20) rfl rfl Try.func80 (by kernel_rfl) rfl #[.string a0] rfl (by (try simp only [List.map_toArray, List.map_cons, List.map_nil]); first | done | rfl | (simp only [List.length_drop, List.length_take]; rfl)) ?_; (with_reducible refine (pack_New.calls a0 t560 t561 w _ ?side1 A5.out).mono ?_); (case side1 => repeat (first | (with_reducible first | exact HB.out | apply below_alloc | apply pw_below_drewN | apply below_drew1) | exact HB.out)); rintro e w6 ⟨g562, rfl, hi, hb, hb2⟩; refine ⟨_, rfl, ?_⟩; have n0_ := Aside0.mk (hb); have n1_ := Aside0.mk (hi); clear HB; have HB := n0_; have HI562 := n1_; clear n0_ n1_; (try clear hb); (try clear hb2); (try clear hk); (try clear hi)))
      go_loopg [7, 8] k (fun kq v7 v8 w' => ∃ (x7_1 : List Int) (x8_1 : Int) (x563000_1 : ByteArray) (x563001_1 : Int), v8 = .int .i64 x8_1 ∧ Aside0 (flags_Decode.l0 kq a1 x7_1 x8_1 x563000_1 x563001_1 = some (r1, r2)) ∧ Aside0 (kq ≤ k) ∧ Aside0 (Kd.R (Kd.int .i64) 3 w' w.heap.size (fun _ => True) v7 x7_1) ∧ Aside0 (IsS120 w w' g562 x563000_1 x563001_1) ∧ Aside0 (Below w.heap.size w w'))
      case atStart => exact ⟨(([] : List Int)), (a1), (t560), (t561), (by first | rfl | (simp; done) | (simp [*]; done)), H', ⟨Nat.le_refl _⟩, ⟨by first | exact Kd.R_nil _ _ _ _ _ | exact Kd.N_nil _ _ _ _ _ | exact Kd.V_nil _ _ _ _ _ | exact Kd.Q_nil _ _ _ _ _ | exact Kd.S_nil _ _ _ _ _⟩, ⟨by repeat (first | (with_reducible first | exact HI562.out | apply IsS120.alloc | apply IsS120.drewN | apply IsS120.drew | apply IsS120.set_0 | apply IsS120.set_1) | exact HI562.out)⟩, ⟨by repeat (first | (with_reducible first | exact HB.out | apply below_alloc | apply pw_below_drewN | apply below_drew1 | refine below_set ?_ (IsS120.ge HI562.out)) | exact HB.out)⟩⟩
      case round =>
        clear H'
        try clear p2
        try clear c3
        try clear c3b0
        try clear c4
        try clear c4b0
        try clear c6
        obtain ⟨x7_1, x8_1, x563000_1, x563001_1, rfl, HA, HK1, HO_7, HI562, HB⟩ := hrel
        cases gk with
        | zero => exact absurd HA.out (by simp [flags_Decode.l0])
        | succ k1 =>
          have H := HA.out
          clear HA
          simp only [flags_Decode.l0] at H
          replace H := Option.bind_eq_some_iff.mp H
          obtain ⟨⟨t563, t564, t565⟩, A70, H⟩ := H
          replace H : (if t563 > 0 then ((pack_Reader_Num.f t564 t565).bind fun bt570 => ((pack_Reader_Err.f bt570.2.1 bt570.2.2).bind fun bt573 => (if bt573.1 = 0 then (if bt570.1 > (IntKind.u64.wrap (x8_1)) then (some (([] : List Bool), 5)) else (if bt570.1 = 0 then (if (x7_1.length : Int) > 0 then (some (([] : List Bool), 5)) else (if x7_1.length < 17592186044416 then (flags_Decode.l0 k1 a1 (x7_1 ++ [wrap64 (bt570.1)]) (wrap64 (x8_1 - (wrap64 (bt570.1)))) bt573.2.1 bt573.2.2) else (none))) else (if x7_1.length < 17592186044416 then (flags_Decode.l0 k1 a1 (x7_1 ++ [wrap64 (bt570.1)]) (wrap64 (x8_1 - (wrap64 (bt570.1)))) bt573.2.1 bt573.2.2) else (none)))) else (some (([] : List Bool), bt573.1))))) else ((flags_Spread.f k1 x7_1 a1).bind fun bt566 => (if bt566.2 = true then (if x8_1 > 0 then (some (([] : List Bool), 5)) else (some (bt566.1, 0))) else (some (([] : List Bool), 5))))) = some (r1, r2) := H
          have A7 := Aside0.mk A70
          clear A70
          by_cases c8 : t563 > 0
          · rw [if_pos c8] at H
            have c8b0 : decide (0 < t563) = true := decide_eq_true c8
            clear c8
            replace H := Option.bind_eq_some_iff.mp H
            obtain ⟨⟨t570, t571, t572⟩, A90, H⟩ := H
            replace H : ((pack_Reader_Err.f t571 t572).bind fun bt573 => (if bt573.1 = 0 then (if t570 > (IntKind.u64.wrap (x8_1)) then (some (([] : List Bool), 5)) else (if t570 = 0 then (if (x7_1.length : Int) > 0 then (some (([] : List Bool), 5)) else (if x7_1.length < 17592186044416 then (flags_Decode.l0 k1 a1 (x7_1 ++ [wrap64 (t570)]) (wrap64 (x8_1 - (wrap64 (t570)))) bt573.2.1 bt573.2.2) else (none))) else (if x7_1.length < 17592186044416 then (flags_Decode.l0 k1 a1 (x7_1 ++ [wrap64 (t570)]) (wrap64 (x8_1 - (wrap64 (t570)))) bt573.2.1 bt573.2.2) else (none)))) else (some (([] : List Bool), bt573.1)))) = some (r1, r2) := H
            have A9 := Aside0.mk A90
            clear A90
            replace H := Option.bind_eq_some_iff.mp H
            obtain ⟨⟨t573, t574, t575⟩, A100, H⟩ := H
            replace H : (if t573 = 0 then (if t570 > (IntKind.u64.wrap (x8_1)) then (some (([] : List Bool), 5)) else (if t570 = 0 then (if (x7_1.length : Int) > 0 then (some (([] : List Bool), 5)) else (if x7_1.length < 17592186044416 then (flags_Decode.l0 k1 a1 (x7_1 ++ [wrap64 (t570)]) (wrap64 (x8_1 - (wrap64 (t570)))) t574 t575) else (none))) else (if x7_1.length < 17592186044416 then (flags_Decode.l0 k1 a1 (x7_1 ++ [wrap64 (t570)]) (wrap64 (x8_1 - (wrap64 (t570)))) t574 t575) else (none)))) else (some (([] : List Bool), t573))) = some (r1, r2) := H
            have A10 := Aside0.mk A100
            clear A100
            by_cases c11 : t573 = 0
            · rw [if_pos c11] at H
              have c11b0 : (t573 == 0) = true := beq_iff_eq.mpr c11
              have c11b1 : (t573 != 0) = false := bne_eq_false_iff_eq.mpr c11
              clear c11
              by_cases c12 : t570 > (IntKind.u64.wrap (x8_1))
              · rw [if_pos c12] at H
                have c12b0 : decide ((IntKind.u64.wrap (x8_1)) < t570) = true := decide_eq_true c12
                clear c12
                simp only [Option.some.injEq, Prod.mk.injEq] at H
                obtain ⟨rfl, rfl⟩ := H
                go_wp2_with (first | ((with_reducible refine gate_callee (f := 83) rfl ?_); refine goesL_ (some 23) rfl rfl Try.func83 (by kernel_rfl) rfl #[.pointer (some ⟨g562, 0, none⟩)] rfl (by (try simp only [List.map_toArray, List.map_cons, List.map_nil]); first | done | rfl | (simp only [List.length_drop, List.length_take]; rfl)) ?_; (with_reducible refine (pack_Reader_Left.calls g562 x563000_1 x563001_1 t563 t564 t565 w _ ?side1 ?side2 A7.out).mono ?_); (case side1 => repeat (first | (with_reducible first | exact HI562.out | apply IsS120.alloc | apply IsS120.drewN | apply IsS120.drew | apply IsS120.set_0 | apply IsS120.set_1) | exact HI562.out)); (case side2 => repeat (first | (with_reducible first | exact HB.out | apply below_alloc | apply pw_below_drewN | apply below_drew1 | refine below_set ?_ (IsS120.ge HI562.out)) | exact HB.out)); rintro e w13 ⟨rfl, hi, hb, hk⟩; refine ⟨_, rfl, ?_⟩; have n0_ := Aside0.mk (Kd.R_mono (Kd.R_keep (IsS120.apart (show IsS120 w _ g562 x563000_1 x563001_1 from by repeat (first | (with_reducible first | exact HI562.out | apply IsS120.alloc | apply IsS120.drewN | apply IsS120.drew | apply IsS120.set_0 | apply IsS120.set_1) | exact HI562.out)) (by (with_reducible repeat (first | apply Kd.R_alloc | apply Kd.R_drewN | apply Kd.R_drew)); exact HO_7.out) (by decide)) hk (fun _ h => h.2)) (fun _ h => h.1)); have n1_ := Aside0.mk (hb); have n2_ := Aside0.mk (hi); clear HO_7; clear HB; clear HI562; have HO_7 := n0_; have HB := n1_; have HI562 := n2_; clear n0_ n1_ n2_; (try clear hb); (try clear hb2); (try clear hk); (try clear hi)) | ((with_reducible refine gate_callee (f := 81) rfl ?_); refine goesL_ (some 26) rfl rfl Try.func81 (by kernel_rfl) rfl #[.pointer (some ⟨g562, 0, none⟩)] rfl (by (try simp only [List.map_toArray, List.map_cons, List.map_nil]); first | done | rfl | (simp only [List.length_drop, List.length_take]; rfl)) ?_; (with_reducible refine (pack_Reader_Num.calls g562 t564 t565 t570 t571 t572 w _ ?side1 ?side2 A9.out).mono ?_); (case side1 => repeat (first | (with_reducible first | exact HI562.out | apply IsS120.alloc | apply IsS120.drewN | apply IsS120.drew | apply IsS120.set_0 | apply IsS120.set_1) | exact HI562.out)); (case side2 => repeat (first | (with_reducible first | exact HB.out | apply below_alloc | apply pw_below_drewN | apply below_drew1 | refine below_set ?_ (IsS120.ge HI562.out)) | exact HB.out)); rintro e w14 ⟨rfl, hi, hb, hk⟩; refine ⟨_, rfl, ?_⟩; have n0_ := Aside0.mk (Kd.R_mono (Kd.R_keep (IsS120.apart (show IsS120 w _ g562 t564 t565 from by repeat (first | (with_reducible first | exact HI562.out | apply IsS120.alloc | apply IsS120.drewN | apply IsS120.drew | apply IsS120.set_0 | apply IsS120.set_1) | exact HI562.out)) (by (with_reducible repeat (first | apply Kd.R_alloc | apply Kd.R_drewN | apply Kd.R_drew)); exact HO_7.out) (by decide)) hk (fun _ h => h.2)) (fun _ h => h.1)); have n1_ := Aside0.mk (hb); have n2_ := Aside0.mk (hi); clear HO_7; clear HB; clear HI562; have HO_7 := n0_; have HB := n1_; have HI562 := n2_; clear n0_ n1_ n2_; (try clear hb); (try clear hb2); (try clear hk); (try clear hi)) | ((with_reducible refine gate_callee (f := 82) rfl ?_); refine goesL_ (some 28) rfl rfl Try.func82 (by kernel_rfl) rfl #[.pointer (some ⟨g562, 0, none⟩)] rfl (by (try simp only [List.map_toArray, List.map_cons, List.map_nil]); first | done | rfl | (simp only [List.length_drop, List.length_take]; rfl)) ?_; (with_reducible refine (pack_Reader_Err.calls g562 t571 t572 t573 t574 t575 w _ ?side1 ?side2 A10.out).mono ?_); (case side1 => repeat (first | (with_reducible first | exact HI562.out | apply IsS120.alloc | apply IsS120.drewN | apply IsS120.drew | apply IsS120.set_0 | apply IsS120.set_1) | exact HI562.out)); (case side2 => repeat (first | (with_reducible first | exact HB.out | apply below_alloc | apply pw_below_drewN | apply below_drew1 | refine below_set ?_ (IsS120.ge HI562.out)) | exact HB.out)); rintro e w15 ⟨rfl, hi, hb, hk⟩; refine ⟨_, rfl, ?_⟩; have n0_ := Aside0.mk (Kd.R_mono (Kd.R_keep (IsS120.apart (show IsS120 w _ g562 t571 t572 from by repeat (first | (with_reducible first | exact HI562.out | apply IsS120.alloc | apply IsS120.drewN | apply IsS120.drew | apply IsS120.set_0 | apply IsS120.set_1) | exact HI562.out)) (by (with_reducible repeat (first | apply Kd.R_alloc | apply Kd.R_drewN | apply Kd.R_drew)); exact HO_7.out) (by decide)) hk (fun _ h => h.2)) (fun _ h => h.1)); have n1_ := Aside0.mk (hb); have n2_ := Aside0.mk (hi); clear HO_7; clear HB; clear HI562; have HO_7 := n0_; have HB := n1_; have HI562 := n2_; clear n0_ n1_ n2_; (try clear hb); (try clear hb2); (try clear hk); (try clear hi)))
                go_ret2
                exact ⟨_, by first | rfl | (simp [errW_none, errW_some] <;> rfl) | (simp [*, errW_none, errW_some] <;> rfl), by first | exact Kd.R_nil _ _ _ _ _ | exact Kd.N_nil _ _ _ _ _ | exact Kd.V_nil _ _ _ _ _ | exact Kd.Q_nil _ _ _ _ _ | exact Kd.S_nil _ _ _ _ _, by repeat (first | (with_reducible first | exact HB.out | apply below_alloc | apply pw_below_drewN | apply below_drew1 | refine below_set ?_ (IsS120.ge HI562.out)) | exact HB.out)⟩
              · rw [if_neg c12] at H
                have c12b0 : decide ((IntKind.u64.wrap (x8_1)) < t570) = false := decide_eq_false c12
                clear c12
                by_cases c16 : t570 = 0
                · rw [if_pos c16] at H
                  have c16b0 : (t570 == 0) = true := beq_iff_eq.mpr c16
                  have c16b1 : (t570 != 0) = false := bne_eq_false_iff_eq.mpr c16
                  clear c16
                  by_cases c17 : (x7_1.length : Int) > 0
                  · rw [if_pos c17] at H
                    have c17b0 : decide (0 < (x7_1.length : Int)) = true := decide_eq_true c17
                    have c17b1 : decide (0 < x7_1.length) = true := decide_eq_true (by omega)
                    clear c17
                    simp only [Option.some.injEq, Prod.mk.injEq] at H
                    obtain ⟨rfl, rfl⟩ := H
                    go_wp2_with (first | ((with_reducible refine gate_callee (f := 83) rfl ?_); refine goesL_ (some 23) rfl rfl Try.func83 (by kernel_rfl) rfl #[.pointer (some ⟨g562, 0, none⟩)] rfl (by (try simp only [List.map_toArray, List.map_cons, List.map_nil]); first | done | rfl | (simp only [List.length_drop, List.length_take]; rfl)) ?_; (with_reducible refine (pack_Reader_Left.calls g562 x563000_1 x563001_1 t563 t564 t565 w _ ?side1 ?side2 A7.out).mono ?_); (case side1 => repeat (first | (with_reducible first | exact HI562.out | apply IsS120.alloc | apply IsS120.drewN | apply IsS120.drew | apply IsS120.set_0 | apply IsS120.set_1) | exact HI562.out)); (case side2 => repeat (first | (with_reducible first | exact HB.out | apply below_alloc | apply pw_below_drewN | apply below_drew1 | refine below_set ?_ (IsS120.ge HI562.out)) | exact HB.out)); rintro e w18 ⟨rfl, hi, hb, hk⟩; refine ⟨_, rfl, ?_⟩; have n0_ := Aside0.mk (Kd.R_mono (Kd.R_keep (IsS120.apart (show IsS120 w _ g562 x563000_1 x563001_1 from by repeat (first | (with_reducible first | exact HI562.out | apply IsS120.alloc | apply IsS120.drewN | apply IsS120.drew | apply IsS120.set_0 | apply IsS120.set_1) | exact HI562.out)) (by (with_reducible repeat (first | apply Kd.R_alloc | apply Kd.R_drewN | apply Kd.R_drew)); exact HO_7.out) (by decide)) hk (fun _ h => h.2)) (fun _ h => h.1)); have n1_ := Aside0.mk (hb); have n2_ := Aside0.mk (hi); clear HO_7; clear HB; clear HI562; have HO_7 := n0_; have HB := n1_; have HI562 := n2_; clear n0_ n1_ n2_; (try clear hb); (try clear hb2); (try clear hk); (try clear hi)) | ((with_reducible refine gate_callee (f := 81) rfl ?_); refine goesL_ (some 26) rfl rfl Try.func81 (by kernel_rfl) rfl #[.pointer (some ⟨g562, 0, none⟩)] rfl (by (try simp only [List.map_toArray, List.map_cons, List.map_nil]); first | done | rfl | (simp only [List.length_drop, List.length_take]; rfl)) ?_; (with_reducible refine (pack_Reader_Num.calls g562 t564 t565 t570 t571 t572 w _ ?side1 ?side2 A9.out).mono ?_); (case side1 => repeat (first | (with_reducible first | exact HI562.out | apply IsS120.alloc | apply IsS120.drewN | apply IsS120.drew | apply IsS120.set_0 | apply IsS120.set_1) | exact HI562.out)); (case side2 => repeat (first | (with_reducible first | exact HB.out | apply below_alloc | apply pw_below_drewN | apply below_drew1 | refine below_set ?_ (IsS120.ge HI562.out)) | exact HB.out)); rintro e w19 ⟨rfl, hi, hb, hk⟩; refine ⟨_, rfl, ?_⟩; have n0_ := Aside0.mk (Kd.R_mono (Kd.R_keep (IsS120.apart (show IsS120 w _ g562 t564 t565 from by repeat (first | (with_reducible first | exact HI562.out | apply IsS120.alloc | apply IsS120.drewN | apply IsS120.drew | apply IsS120.set_0 | apply IsS120.set_1) | exact HI562.out)) (by (with_reducible repeat (first | apply Kd.R_alloc | apply Kd.R_drewN | apply Kd.R_drew)); exact HO_7.out) (by decide)) hk (fun _ h => h.2)) (fun _ h => h.1)); have n1_ := Aside0.mk (hb); have n2_ := Aside0.mk (hi); clear HO_7; clear HB; clear HI562; have HO_7 := n0_; have HB := n1_; have HI562 := n2_; clear n0_ n1_ n2_; (try clear hb); (try clear hb2); (try clear hk); (try clear hi)) | ((with_reducible refine gate_callee (f := 82) rfl ?_); refine goesL_ (some 28) rfl rfl Try.func82 (by kernel_rfl) rfl #[.pointer (some ⟨g562, 0, none⟩)] rfl (by (try simp only [List.map_toArray, List.map_cons, List.map_nil]); first | done | rfl | (simp only [List.length_drop, List.length_take]; rfl)) ?_; (with_reducible refine (pack_Reader_Err.calls g562 t571 t572 t573 t574 t575 w _ ?side1 ?side2 A10.out).mono ?_); (case side1 => repeat (first | (with_reducible first | exact HI562.out | apply IsS120.alloc | apply IsS120.drewN | apply IsS120.drew | apply IsS120.set_0 | apply IsS120.set_1) | exact HI562.out)); (case side2 => repeat (first | (with_reducible first | exact HB.out | apply below_alloc | apply pw_below_drewN | apply below_drew1 | refine below_set ?_ (IsS120.ge HI562.out)) | exact HB.out)); rintro e w20 ⟨rfl, hi, hb, hk⟩; refine ⟨_, rfl, ?_⟩; have n0_ := Aside0.mk (Kd.R_mono (Kd.R_keep (IsS120.apart (show IsS120 w _ g562 t571 t572 from by repeat (first | (with_reducible first | exact HI562.out | apply IsS120.alloc | apply IsS120.drewN | apply IsS120.drew | apply IsS120.set_0 | apply IsS120.set_1) | exact HI562.out)) (by (with_reducible repeat (first | apply Kd.R_alloc | apply Kd.R_drewN | apply Kd.R_drew)); exact HO_7.out) (by decide)) hk (fun _ h => h.2)) (fun _ h => h.1)); have n1_ := Aside0.mk (hb); have n2_ := Aside0.mk (hi); clear HO_7; clear HB; clear HI562; have HO_7 := n0_; have HB := n1_; have HI562 := n2_; clear n0_ n1_ n2_; (try clear hb); (try clear hb2); (try clear hk); (try clear hi); obtain ⟨Ao21, co21, eo21⟩ := Kd.R_slice HO_7.out; subst eo21))
                    go_ret2
                    exact ⟨_, by first | rfl | (simp [errW_none, errW_some] <;> rfl) | (simp [*, errW_none, errW_some] <;> rfl), by first | exact Kd.R_nil _ _ _ _ _ | exact Kd.N_nil _ _ _ _ _ | exact Kd.V_nil _ _ _ _ _ | exact Kd.Q_nil _ _ _ _ _ | exact Kd.S_nil _ _ _ _ _, by repeat (first | (with_reducible first | exact HB.out | apply below_alloc | apply pw_below_drewN | apply below_drew1 | refine below_set ?_ (IsS120.ge HI562.out)) | exact HB.out)⟩
                  · rw [if_neg c17] at H
                    have c17b0 : decide (0 < (x7_1.length : Int)) = false := decide_eq_false c17
                    have c17b1 : decide (0 < x7_1.length) = false := decide_eq_false (by omega)
                    clear c17
                    by_cases c22 : x7_1.length < 17592186044416
                    · rw [if_pos c22] at H
                      have LMc22 := Aside0.mk c22
                      clear c22
                      obtain ⟨y576, hy576⟩ : ∃ y_ : List Int, y_ = (x7_1 ++ [wrap64 (t570)]) := ⟨_, rfl⟩
                      replace H : (flags_Decode.l0 k1 a1 y576 (wrap64 (x8_1 - (wrap64 (t570)))) t574 t575) = some (r1, r2) := by first | (rw [hy576]; with_reducible exact H) | (have H2_ := (Option.bind_some _ _).symm.trans H; rw [hy576]; with_reducible exact H2_) | (have H2_ := (Option.bind_some _ _).symm.trans H; with_reducible exact H2_) | with_reducible exact H | (rw [hy576]; exact H) | exact H
                      have Ny576 := Aside0.mk hy576
                      clear hy576
                      have H' := Aside0.mk H
                      clear H
                      go_wp2_with (first | ((with_reducible refine gate_callee (f := 83) rfl ?_); refine goesL_ (some 23) rfl rfl Try.func83 (by kernel_rfl) rfl #[.pointer (some ⟨g562, 0, none⟩)] rfl (by (try simp only [List.map_toArray, List.map_cons, List.map_nil]); first | done | rfl | (simp only [List.length_drop, List.length_take]; rfl)) ?_; (with_reducible refine (pack_Reader_Left.calls g562 x563000_1 x563001_1 t563 t564 t565 w _ ?side1 ?side2 A7.out).mono ?_); (case side1 => repeat (first | (with_reducible first | exact HI562.out | apply IsS120.alloc | apply IsS120.drewN | apply IsS120.drew | apply IsS120.set_0 | apply IsS120.set_1) | exact HI562.out)); (case side2 => repeat (first | (with_reducible first | exact HB.out | apply below_alloc | apply pw_below_drewN | apply below_drew1 | refine below_set ?_ (IsS120.ge HI562.out)) | exact HB.out)); rintro e w23 ⟨rfl, hi, hb, hk⟩; refine ⟨_, rfl, ?_⟩; have n0_ := Aside0.mk (Kd.R_mono (Kd.R_keep (IsS120.apart (show IsS120 w _ g562 x563000_1 x563001_1 from by repeat (first | (with_reducible first | exact HI562.out | apply IsS120.alloc | apply IsS120.drewN | apply IsS120.drew | apply IsS120.set_0 | apply IsS120.set_1) | exact HI562.out)) (by (with_reducible repeat (first | apply Kd.R_alloc | apply Kd.R_drewN | apply Kd.R_drew)); exact HO_7.out) (by decide)) hk (fun _ h => h.2)) (fun _ h => h.1)); have n1_ := Aside0.mk (hb); have n2_ := Aside0.mk (hi); clear HO_7; clear HB; clear HI562; have HO_7 := n0_; have HB := n1_; have HI562 := n2_; clear n0_ n1_ n2_; (try clear hb); (try clear hb2); (try clear hk); (try clear hi)) | ((with_reducible refine gate_callee (f := 81) rfl ?_); refine goesL_ (some 26) rfl rfl Try.func81 (by kernel_rfl) rfl #[.pointer (some ⟨g562, 0, none⟩)] rfl (by (try simp only [List.map_toArray, List.map_cons, List.map_nil]); first | done | rfl | (simp only [List.length_drop, List.length_take]; rfl)) ?_; (with_reducible refine (pack_Reader_Num.calls g562 t564 t565 t570 t571 t572 w _ ?side1 ?side2 A9.out).mono ?_); (case side1 => repeat (first | (with_reducible first | exact HI562.out | apply IsS120.alloc | apply IsS120.drewN | apply IsS120.drew | apply IsS120.set_0 | apply IsS120.set_1) | exact HI562.out)); (case side2 => repeat (first | (with_reducible first | exact HB.out | apply below_alloc | apply pw_below_drewN | apply below_drew1 | refine below_set ?_ (IsS120.ge HI562.out)) | exact HB.out)); rintro e w24 ⟨rfl, hi, hb, hk⟩; refine ⟨_, rfl, ?_⟩; have n0_ := Aside0.mk (Kd.R_mono (Kd.R_keep (IsS120.apart (show IsS120 w _ g562 t564 t565 from by repeat (first | (with_reducible first | exact HI562.out | apply IsS120.alloc | apply IsS120.drewN | apply IsS120.drew | apply IsS120.set_0 | apply IsS120.set_1) | exact HI562.out)) (by (with_reducible repeat (first | apply Kd.R_alloc | apply Kd.R_drewN | apply Kd.R_drew)); exact HO_7.out) (by decide)) hk (fun _ h => h.2)) (fun _ h => h.1)); have n1_ := Aside0.mk (hb); have n2_ := Aside0.mk (hi); clear HO_7; clear HB; clear HI562; have HO_7 := n0_; have HB := n1_; have HI562 := n2_; clear n0_ n1_ n2_; (try clear hb); (try clear hb2); (try clear hk); (try clear hi)) | ((with_reducible refine gate_callee (f := 82) rfl ?_); refine goesL_ (some 28) rfl rfl Try.func82 (by kernel_rfl) rfl #[.pointer (some ⟨g562, 0, none⟩)] rfl (by (try simp only [List.map_toArray, List.map_cons, List.map_nil]); first | done | rfl | (simp only [List.length_drop, List.length_take]; rfl)) ?_; (with_reducible refine (pack_Reader_Err.calls g562 t571 t572 t573 t574 t575 w _ ?side1 ?side2 A10.out).mono ?_); (case side1 => repeat (first | (with_reducible first | exact HI562.out | apply IsS120.alloc | apply IsS120.drewN | apply IsS120.drew | apply IsS120.set_0 | apply IsS120.set_1) | exact HI562.out)); (case side2 => repeat (first | (with_reducible first | exact HB.out | apply below_alloc | apply pw_below_drewN | apply below_drew1 | refine below_set ?_ (IsS120.ge HI562.out)) | exact HB.out)); rintro e w25 ⟨rfl, hi, hb, hk⟩; refine ⟨_, rfl, ?_⟩; have n0_ := Aside0.mk (Kd.R_mono (Kd.R_keep (IsS120.apart (show IsS120 w _ g562 t571 t572 from by repeat (first | (with_reducible first | exact HI562.out | apply IsS120.alloc | apply IsS120.drewN | apply IsS120.drew | apply IsS120.set_0 | apply IsS120.set_1) | exact HI562.out)) (by (with_reducible repeat (first | apply Kd.R_alloc | apply Kd.R_drewN | apply Kd.R_drew)); exact HO_7.out) (by decide)) hk (fun _ h => h.2)) (fun _ h => h.1)); have n1_ := Aside0.mk (hb); have n2_ := Aside0.mk (hi); clear HO_7; clear HB; clear HI562; have HO_7 := n0_; have HB := n1_; have HI562 := n2_; clear n0_ n1_ n2_; (try clear hb); (try clear hb2); (try clear hk); (try clear hi); obtain ⟨Ao26, co26, eo26⟩ := Kd.R_slice HO_7.out; subst eo26) | ((with_reducible refine gate_builtin (b := .append) (xs := #[.tmp 49, .tmp 52]) rfl ?_); (try (refine gate_guard (by rfl) ?_; dsimp only)); at_builtin; refine Kd.R_append (Kd.int .i64) (w0 := w) w.heap.size rfl (.tmp 49) (.tmp 52) 56 3 (.int .i64 0) 8 rfl Try.underlying56 info3 rfl (by decide) (by omega) (.slice Ao26 x7_1.length co26) x7_1 (wrap64 (t570)) [.int .i64 (wrap64 (t570))] (fun _ => True) (fun _ => False) rfl rfl ?aP (fun _ hk => hk.elim) ?aF ?aO ?aB ?aS ?aL ?_; (case aP => exact rfl); (case aB => exact (by repeat (first | (with_reducible first | exact HB.out | apply below_alloc | apply pw_below_drewN | apply below_drew1 | refine below_set ?_ (IsS120.ge HI562.out)) | exact HB.out))); (case aF => exact (fun _ _ => trivial)); (case aO => exact (by (with_reducible repeat (first | apply Kd.R_alloc | apply Kd.R_drewN | apply Kd.R_drew)); exact HO_7.out)); (case aS => exact (below_size (by repeat (first | (with_reducible first | exact HB.out | apply below_alloc | apply pw_below_drewN | apply below_drew1 | refine below_set ?_ (IsS120.ge HI562.out)) | exact HB.out)))); (case aL => have := LMc22.out; omega); intro v577 w27 ho hb hg hat; rw [← Ny576.out] at ho; have n0_ := Aside0.mk (IsS120.grown (by repeat (first | (with_reducible first | exact HI562.out | apply IsS120.alloc | apply IsS120.drewN | apply IsS120.drew | apply IsS120.set_0 | apply IsS120.set_1) | exact HI562.out)) hg (IsS120.own_ne HI562.out HO_7.out (by decide))); have n1_ := Aside0.mk (hb); have n2_ := Aside0.mk (ho); clear HI562; clear HB; clear HO_7; have HI562 := n0_; have HB := n1_; have HO578 := n2_; clear n0_ n1_ n2_; clear ho hb hg hat))
                      go_roundg k1
                      case measure => have := HK1.out; omega
                      case rel => exact ⟨(y576), (wrap64 (x8_1 - (wrap64 (t570)))), (t574), (t575), (by first | rfl | (simp; done) | (simp [*]; done)), H', ⟨by have := HK1.out; omega⟩, ⟨by (with_reducible repeat (first | apply Kd.R_alloc | apply Kd.R_drewN | apply Kd.R_drew)); exact HO578.out⟩, ⟨by repeat (first | (with_reducible first | exact HI562.out | apply IsS120.alloc | apply IsS120.drewN | apply IsS120.drew | apply IsS120.set_0 | apply IsS120.set_1) | exact HI562.out)⟩, ⟨by repeat (first | (with_reducible first | exact HB.out | apply below_alloc | apply pw_below_drewN | apply below_drew1 | refine below_set ?_ (IsS120.ge HI562.out)) | exact HB.out)⟩⟩
                    · rw [if_neg c22] at H
                      exact absurd H (by simp)
                · rw [if_neg c16] at H
                  have c16b0 : (t570 == 0) = false := beq_eq_false_iff_ne.mpr c16
                  have c16b1 : (t570 != 0) = true := bne_iff_ne.mpr c16
                  by_cases c28 : x7_1.length < 17592186044416
                  · rw [if_pos c28] at H
                    have LMc28 := Aside0.mk c28
                    clear c28
                    obtain ⟨y579, hy579⟩ : ∃ y_ : List Int, y_ = (x7_1 ++ [wrap64 (t570)]) := ⟨_, rfl⟩
                    replace H : (flags_Decode.l0 k1 a1 y579 (wrap64 (x8_1 - (wrap64 (t570)))) t574 t575) = some (r1, r2) := by first | (rw [hy579]; with_reducible exact H) | (have H2_ := (Option.bind_some _ _).symm.trans H; rw [hy579]; with_reducible exact H2_) | (have H2_ := (Option.bind_some _ _).symm.trans H; with_reducible exact H2_) | with_reducible exact H | (rw [hy579]; exact H) | exact H
                    have Ny579 := Aside0.mk hy579
                    clear hy579
                    have H' := Aside0.mk H
                    clear H
                    go_wp2_with (first | ((with_reducible refine gate_callee (f := 83) rfl ?_); refine goesL_ (some 23) rfl rfl Try.func83 (by kernel_rfl) rfl #[.pointer (some ⟨g562, 0, none⟩)] rfl (by (try simp only [List.map_toArray, List.map_cons, List.map_nil]); first | done | rfl | (simp only [List.length_drop, List.length_take]; rfl)) ?_; (with_reducible refine (pack_Reader_Left.calls g562 x563000_1 x563001_1 t563 t564 t565 w _ ?side1 ?side2 A7.out).mono ?_); (case side1 => repeat (first | (with_reducible first | exact HI562.out | apply IsS120.alloc | apply IsS120.drewN | apply IsS120.drew | apply IsS120.set_0 | apply IsS120.set_1) | exact HI562.out)); (case side2 => repeat (first | (with_reducible first | exact HB.out | apply below_alloc | apply pw_below_drewN | apply below_drew1 | refine below_set ?_ (IsS120.ge HI562.out)) | exact HB.out)); rintro e w29 ⟨rfl, hi, hb, hk⟩; refine ⟨_, rfl, ?_⟩; have n0_ := Aside0.mk (Kd.R_mono (Kd.R_keep (IsS120.apart (show IsS120 w _ g562 x563000_1 x563001_1 from by repeat (first | (with_reducible first | exact HI562.out | apply IsS120.alloc | apply IsS120.drewN | apply IsS120.drew | apply IsS120.set_0 | apply IsS120.set_1) | exact HI562.out)) (by (with_reducible repeat (first | apply Kd.R_alloc | apply Kd.R_drewN | apply Kd.R_drew)); exact HO_7.out) (by decide)) hk (fun _ h => h.2)) (fun _ h => h.1)); have n1_ := Aside0.mk (hb); have n2_ := Aside0.mk (hi); clear HO_7; clear HB; clear HI562; have HO_7 := n0_; have HB := n1_; have HI562 := n2_; clear n0_ n1_ n2_; (try clear hb); (try clear hb2); (try clear hk); (try clear hi)) | ((with_reducible refine gate_callee (f := 81) rfl ?_); refine goesL_ (some 26) rfl rfl Try.func81 (by kernel_rfl) rfl #[.pointer (some ⟨g562, 0, none⟩)] rfl (by (try simp only [List.map_toArray, List.map_cons, List.map_nil]); first | done | rfl | (simp only [List.length_drop, List.length_take]; rfl)) ?_; (with_reducible refine (pack_Reader_Num.calls g562 t564 t565 t570 t571 t572 w _ ?side1 ?side2 A9.out).mono ?_); (case side1 => repeat (first | (with_reducible first | exact HI562.out | apply IsS120.alloc | apply IsS120.drewN | apply IsS120.drew | apply IsS120.set_0 | apply IsS120.set_1) | exact HI562.out)); (case side2 => repeat (first | (with_reducible first | exact HB.out | apply below_alloc | apply pw_below_drewN | apply below_drew1 | refine below_set ?_ (IsS120.ge HI562.out)) | exact HB.out)); rintro e w30 ⟨rfl, hi, hb, hk⟩; refine ⟨_, rfl, ?_⟩; have n0_ := Aside0.mk (Kd.R_mono (Kd.R_keep (IsS120.apart (show IsS120 w _ g562 t564 t565 from by repeat (first | (with_reducible first | exact HI562.out | apply IsS120.alloc | apply IsS120.drewN | apply IsS120.drew | apply IsS120.set_0 | apply IsS120.set_1) | exact HI562.out)) (by (with_reducible repeat (first | apply Kd.R_alloc | apply Kd.R_drewN | apply Kd.R_drew)); exact HO_7.out) (by decide)) hk (fun _ h => h.2)) (fun _ h => h.1)); have n1_ := Aside0.mk (hb); have n2_ := Aside0.mk (hi); clear HO_7; clear HB; clear HI562; have HO_7 := n0_; have HB := n1_; have HI562 := n2_; clear n0_ n1_ n2_; (try clear hb); (try clear hb2); (try clear hk); (try clear hi)) | ((with_reducible refine gate_callee (f := 82) rfl ?_); refine goesL_ (some 28) rfl rfl Try.func82 (by kernel_rfl) rfl #[.pointer (some ⟨g562, 0, none⟩)] rfl (by (try simp only [List.map_toArray, List.map_cons, List.map_nil]); first | done | rfl | (simp only [List.length_drop, List.length_take]; rfl)) ?_; (with_reducible refine (pack_Reader_Err.calls g562 t571 t572 t573 t574 t575 w _ ?side1 ?side2 A10.out).mono ?_); (case side1 => repeat (first | (with_reducible first | exact HI562.out | apply IsS120.alloc | apply IsS120.drewN | apply IsS120.drew | apply IsS120.set_0 | apply IsS120.set_1) | exact HI562.out)); (case side2 => repeat (first | (with_reducible first | exact HB.out | apply below_alloc | apply pw_below_drewN | apply below_drew1 | refine below_set ?_ (IsS120.ge HI562.out)) | exact HB.out)); rintro e w31 ⟨rfl, hi, hb, hk⟩; refine ⟨_, rfl, ?_⟩; have n0_ := Aside0.mk (Kd.R_mono (Kd.R_keep (IsS120.apart (show IsS120 w _ g562 t571 t572 from by repeat (first | (with_reducible first | exact HI562.out | apply IsS120.alloc | apply IsS120.drewN | apply IsS120.drew | apply IsS120.set_0 | apply IsS120.set_1) | exact HI562.out)) (by (with_reducible repeat (first | apply Kd.R_alloc | apply Kd.R_drewN | apply Kd.R_drew)); exact HO_7.out) (by decide)) hk (fun _ h => h.2)) (fun _ h => h.1)); have n1_ := Aside0.mk (hb); have n2_ := Aside0.mk (hi); clear HO_7; clear HB; clear HI562; have HO_7 := n0_; have HB := n1_; have HI562 := n2_; clear n0_ n1_ n2_; (try clear hb); (try clear hb2); (try clear hk); (try clear hi)) | ((with_reducible refine gate_builtin (b := .append) (xs := #[.tmp 49, .tmp 52]) rfl ?_); (try (refine gate_guard (by rfl) ?_; dsimp only)); at_builtin; refine Kd.R_append (Kd.int .i64) (w0 := w) w.heap.size rfl (.tmp 49) (.tmp 52) 56 3 (.int .i64 0) 8 rfl Try.underlying56 info3 rfl (by decide) (by omega) u7 x7_1 (wrap64 (t570)) [.int .i64 (wrap64 (t570))] (fun _ => True) (fun _ => False) rfl rfl ?aP (fun _ hk => hk.elim) ?aF ?aO ?aB ?aS ?aL ?_; (case aP => exact rfl); (case aB => exact (by repeat (first | (with_reducible first | exact HB.out | apply below_alloc | apply pw_below_drewN | apply below_drew1 | refine below_set ?_ (IsS120.ge HI562.out)) | exact HB.out))); (case aF => exact (fun _ _ => trivial)); (case aO => exact (by (with_reducible repeat (first | apply Kd.R_alloc | apply Kd.R_drewN | apply Kd.R_drew)); exact HO_7.out)); (case aS => exact (below_size (by repeat (first | (with_reducible first | exact HB.out | apply below_alloc | apply pw_below_drewN | apply below_drew1 | refine below_set ?_ (IsS120.ge HI562.out)) | exact HB.out)))); (case aL => have := LMc28.out; omega); intro v580 w32 ho hb hg hat; rw [← Ny579.out] at ho; have n0_ := Aside0.mk (IsS120.grown (by repeat (first | (with_reducible first | exact HI562.out | apply IsS120.alloc | apply IsS120.drewN | apply IsS120.drew | apply IsS120.set_0 | apply IsS120.set_1) | exact HI562.out)) hg (IsS120.own_ne HI562.out HO_7.out (by decide))); have n1_ := Aside0.mk (hb); have n2_ := Aside0.mk (ho); clear HI562; clear HB; clear HO_7; have HI562 := n0_; have HB := n1_; have HO581 := n2_; clear n0_ n1_ n2_; clear ho hb hg hat))
                    go_roundg k1
                    case measure => have := HK1.out; omega
                    case rel => exact ⟨(y579), (wrap64 (x8_1 - (wrap64 (t570)))), (t574), (t575), (by first | rfl | (simp; done) | (simp [*]; done)), H', ⟨by have := HK1.out; omega⟩, ⟨by (with_reducible repeat (first | apply Kd.R_alloc | apply Kd.R_drewN | apply Kd.R_drew)); exact HO581.out⟩, ⟨by repeat (first | (with_reducible first | exact HI562.out | apply IsS120.alloc | apply IsS120.drewN | apply IsS120.drew | apply IsS120.set_0 | apply IsS120.set_1) | exact HI562.out)⟩, ⟨by repeat (first | (with_reducible first | exact HB.out | apply below_alloc | apply pw_below_drewN | apply below_drew1 | refine below_set ?_ (IsS120.ge HI562.out)) | exact HB.out)⟩⟩
                  · rw [if_neg c28] at H
                    exact absurd H (by simp)
            · rw [if_neg c11] at H
              have c11b0 : (t573 == 0) = false := beq_eq_false_iff_ne.mpr c11
              have c11b1 : (t573 != 0) = true := bne_iff_ne.mpr c11
              simp only [Option.some.injEq, Prod.mk.injEq] at H
              obtain ⟨rfl, rfl⟩ := H
              go_wp2_with (first | ((with_reducible refine gate_callee (f := 83) rfl ?_); refine goesL_ (some 23) rfl rfl Try.func83 (by kernel_rfl) rfl #[.pointer (some ⟨g562, 0, none⟩)] rfl (by (try simp only [List.map_toArray, List.map_cons, List.map_nil]); first | done | rfl | (simp only [List.length_drop, List.length_take]; rfl)) ?_; (with_reducible refine (pack_Reader_Left.calls g562 x563000_1 x563001_1 t563 t564 t565 w _ ?side1 ?side2 A7.out).mono ?_); (case side1 => repeat (first | (with_reducible first | exact HI562.out | apply IsS120.alloc | apply IsS120.drewN | apply IsS120.drew | apply IsS120.set_0 | apply IsS120.set_1) | exact HI562.out)); (case side2 => repeat (first | (with_reducible first | exact HB.out | apply below_alloc | apply pw_below_drewN | apply below_drew1 | refine below_set ?_ (IsS120.ge HI562.out)) | exact HB.out)); rintro e w33 ⟨rfl, hi, hb, hk⟩; refine ⟨_, rfl, ?_⟩; have n0_ := Aside0.mk (Kd.R_mono (Kd.R_keep (IsS120.apart (show IsS120 w _ g562 x563000_1 x563001_1 from by repeat (first | (with_reducible first | exact HI562.out | apply IsS120.alloc | apply IsS120.drewN | apply IsS120.drew | apply IsS120.set_0 | apply IsS120.set_1) | exact HI562.out)) (by (with_reducible repeat (first | apply Kd.R_alloc | apply Kd.R_drewN | apply Kd.R_drew)); exact HO_7.out) (by decide)) hk (fun _ h => h.2)) (fun _ h => h.1)); have n1_ := Aside0.mk (hb); have n2_ := Aside0.mk (hi); clear HO_7; clear HB; clear HI562; have HO_7 := n0_; have HB := n1_; have HI562 := n2_; clear n0_ n1_ n2_; (try clear hb); (try clear hb2); (try clear hk); (try clear hi)) | ((with_reducible refine gate_callee (f := 81) rfl ?_); refine goesL_ (some 26) rfl rfl Try.func81 (by kernel_rfl) rfl #[.pointer (some ⟨g562, 0, none⟩)] rfl (by (try simp only [List.map_toArray, List.map_cons, List.map_nil]); first | done | rfl | (simp only [List.length_drop, List.length_take]; rfl)) ?_; (with_reducible refine (pack_Reader_Num.calls g562 t564 t565 t570 t571 t572 w _ ?side1 ?side2 A9.out).mono ?_); (case side1 => repeat (first | (with_reducible first | exact HI562.out | apply IsS120.alloc | apply IsS120.drewN | apply IsS120.drew | apply IsS120.set_0 | apply IsS120.set_1) | exact HI562.out)); (case side2 => repeat (first | (with_reducible first | exact HB.out | apply below_alloc | apply pw_below_drewN | apply below_drew1 | refine below_set ?_ (IsS120.ge HI562.out)) | exact HB.out)); rintro e w34 ⟨rfl, hi, hb, hk⟩; refine ⟨_, rfl, ?_⟩; have n0_ := Aside0.mk (Kd.R_mono (Kd.R_keep (IsS120.apart (show IsS120 w _ g562 t564 t565 from by repeat (first | (with_reducible first | exact HI562.out | apply IsS120.alloc | apply IsS120.drewN | apply IsS120.drew | apply IsS120.set_0 | apply IsS120.set_1) | exact HI562.out)) (by (with_reducible repeat (first | apply Kd.R_alloc | apply Kd.R_drewN | apply Kd.R_drew)); exact HO_7.out) (by decide)) hk (fun _ h => h.2)) (fun _ h => h.1)); have n1_ := Aside0.mk (hb); have n2_ := Aside0.mk (hi); clear HO_7; clear HB; clear HI562; have HO_7 := n0_; have HB := n1_; have HI562 := n2_; clear n0_ n1_ n2_; (try clear hb); (try clear hb2); (try clear hk); (try clear hi)) | ((with_reducible refine gate_callee (f := 82) rfl ?_); refine goesL_ (some 28) rfl rfl Try.func82 (by kernel_rfl) rfl #[.pointer (some ⟨g562, 0, none⟩)] rfl (by (try simp only [List.map_toArray, List.map_cons, List.map_nil]); first | done | rfl | (simp only [List.length_drop, List.length_take]; rfl)) ?_; (with_reducible refine (pack_Reader_Err.calls g562 t571 t572 t573 t574 t575 w _ ?side1 ?side2 A10.out).mono ?_); (case side1 => repeat (first | (with_reducible first | exact HI562.out | apply IsS120.alloc | apply IsS120.drewN | apply IsS120.drew | apply IsS120.set_0 | apply IsS120.set_1) | exact HI562.out)); (case side2 => repeat (first | (with_reducible first | exact HB.out | apply below_alloc | apply pw_below_drewN | apply below_drew1 | refine below_set ?_ (IsS120.ge HI562.out)) | exact HB.out)); rintro e w35 ⟨rfl, hi, hb, hk⟩; refine ⟨_, rfl, ?_⟩; have n0_ := Aside0.mk (Kd.R_mono (Kd.R_keep (IsS120.apart (show IsS120 w _ g562 t571 t572 from by repeat (first | (with_reducible first | exact HI562.out | apply IsS120.alloc | apply IsS120.drewN | apply IsS120.drew | apply IsS120.set_0 | apply IsS120.set_1) | exact HI562.out)) (by (with_reducible repeat (first | apply Kd.R_alloc | apply Kd.R_drewN | apply Kd.R_drew)); exact HO_7.out) (by decide)) hk (fun _ h => h.2)) (fun _ h => h.1)); have n1_ := Aside0.mk (hb); have n2_ := Aside0.mk (hi); clear HO_7; clear HB; clear HI562; have HO_7 := n0_; have HB := n1_; have HI562 := n2_; clear n0_ n1_ n2_; (try clear hb); (try clear hb2); (try clear hk); (try clear hi)))
              go_ret2
              exact ⟨_, by first | rfl | (simp [errW_none, errW_some] <;> rfl) | (simp [*, errW_none, errW_some] <;> rfl), by first | exact Kd.R_nil _ _ _ _ _ | exact Kd.N_nil _ _ _ _ _ | exact Kd.V_nil _ _ _ _ _ | exact Kd.Q_nil _ _ _ _ _ | exact Kd.S_nil _ _ _ _ _, by repeat (first | (with_reducible first | exact HB.out | apply below_alloc | apply pw_below_drewN | apply below_drew1 | refine below_set ?_ (IsS120.ge HI562.out)) | exact HB.out)⟩
          · rw [if_neg c8] at H
            have c8b0 : decide (0 < t563) = false := decide_eq_false c8
            clear c8
            replace H := Option.bind_eq_some_iff.mp H
            obtain ⟨⟨t566, t567⟩, A360, H⟩ := H
            replace H : (if t567 = true then (if x8_1 > 0 then (some (([] : List Bool), 5)) else (some (t566, 0))) else (some (([] : List Bool), 5))) = some (r1, r2) := H
            have A36 := Aside0.mk A360
            clear A360
            by_cases c37 : t567 = true
            · subst c37
              have H1 : (if x8_1 > 0 then (some (([] : List Bool), 5)) else (some (t566, 0))) = some (r1, r2) := by rw [if_pos rfl] at H; exact H
              clear H
              have H := H1
              clear H1
              by_cases c38 : x8_1 > 0
              · rw [if_pos c38] at H
                have c38b0 : decide (0 < x8_1) = true := decide_eq_true c38
                clear c38
                simp only [Option.some.injEq, Prod.mk.injEq] at H
                obtain ⟨rfl, rfl⟩ := H
                go_wp2_with (first | ((with_reducible refine gate_callee (f := 83) rfl ?_); refine goesL_ (some 23) rfl rfl Try.func83 (by kernel_rfl) rfl #[.pointer (some ⟨g562, 0, none⟩)] rfl (by (try simp only [List.map_toArray, List.map_cons, List.map_nil]); first | done | rfl | (simp only [List.length_drop, List.length_take]; rfl)) ?_; (with_reducible refine (pack_Reader_Left.calls g562 x563000_1 x563001_1 t563 t564 t565 w _ ?side1 ?side2 A7.out).mono ?_); (case side1 => repeat (first | (with_reducible first | exact HI562.out | apply IsS120.alloc | apply IsS120.drewN | apply IsS120.drew | apply IsS120.set_0 | apply IsS120.set_1) | exact HI562.out)); (case side2 => repeat (first | (with_reducible first | exact HB.out | apply below_alloc | apply pw_below_drewN | apply below_drew1 | refine below_set ?_ (IsS120.ge HI562.out)) | exact HB.out)); rintro e w39 ⟨rfl, hi, hb, hk⟩; refine ⟨_, rfl, ?_⟩; have n0_ := Aside0.mk (Kd.R_mono (Kd.R_keep (IsS120.apart (show IsS120 w _ g562 x563000_1 x563001_1 from by repeat (first | (with_reducible first | exact HI562.out | apply IsS120.alloc | apply IsS120.drewN | apply IsS120.drew | apply IsS120.set_0 | apply IsS120.set_1) | exact HI562.out)) (by (with_reducible repeat (first | apply Kd.R_alloc | apply Kd.R_drewN | apply Kd.R_drew)); exact HO_7.out) (by decide)) hk (fun _ h => h.2)) (fun _ h => h.1)); have n1_ := Aside0.mk (hb); have n2_ := Aside0.mk (hi); clear HO_7; clear HB; clear HI562; have HO_7 := n0_; have HB := n1_; have HI562 := n2_; clear n0_ n1_ n2_; (try clear hb); (try clear hb2); (try clear hk); (try clear hi); obtain ⟨Ao40, co40, eo40⟩ := Kd.R_slice HO_7.out; subst eo40) | ((with_reducible refine gate_callee (f := 52) rfl ?_); refine goesL_ (some 57) rfl rfl Try.func52 (by kernel_rfl) rfl #[.slice Ao40 x7_1.length co40, .int .i64 a1] rfl (by (try simp only [List.map_toArray, List.map_cons, List.map_nil]); first | done | rfl | (simp only [List.length_drop, List.length_take]; rfl)) ?_; (with_reducible refine (flags_Spread.calls k1 _ _ x7_1 a1 t566 true _ ?side1 ?side2 A36.out).mono ?_); (case side1 => repeat (first | exact (Kd.R_reads' HO_7.out).2.2 | (with_reducible refine Kd.C_alloc ?_ _) | (with_reducible refine Kd.C_drewN ?_ _) | (with_reducible refine Kd.C_drew ?_))); (case side2 => exact (Kd.R_reads' HO_7.out).2.1); rintro e w41 ⟨v568, rfl, ho0, hb⟩; refine ⟨_, rfl, ?_⟩; have n0_ := Aside0.mk (Kd.R_below (by (with_reducible repeat (first | apply Kd.R_alloc | apply Kd.R_drewN | apply Kd.R_drew)); exact HO_7.out) hb); have n1_ := Aside0.mk (Kd.R_lower ho0 (below_size (by repeat (first | (with_reducible first | exact HB.out | apply below_alloc | apply pw_below_drewN | apply below_drew1 | refine below_set ?_ (IsS120.ge HI562.out)) | exact HB.out)))); have n2_ := Aside0.mk (IsS120.below (by repeat (first | (with_reducible first | exact HI562.out | apply IsS120.alloc | apply IsS120.drewN | apply IsS120.drew | apply IsS120.set_0 | apply IsS120.set_1) | exact HI562.out)) hb); have n3_ := Aside0.mk (below_step (by repeat (first | (with_reducible first | exact HB.out | apply below_alloc | apply pw_below_drewN | apply below_drew1 | refine below_set ?_ (IsS120.ge HI562.out)) | exact HB.out)) hb); clear HO_7; clear HI562; clear HB; have HO_7 := n0_; have HO569 := n1_; have HI562 := n2_; have HB := n3_; clear n0_ n1_ n2_ n3_; (try clear hb); (try clear hb2); (try clear hk); (try clear hi); (try clear ho0)))
                go_ret2
                exact ⟨_, by first | rfl | (simp [errW_none, errW_some] <;> rfl) | (simp [*, errW_none, errW_some] <;> rfl), by first | exact Kd.R_nil _ _ _ _ _ | exact Kd.N_nil _ _ _ _ _ | exact Kd.V_nil _ _ _ _ _ | exact Kd.Q_nil _ _ _ _ _ | exact Kd.S_nil _ _ _ _ _, by repeat (first | (with_reducible first | exact HB.out | apply below_alloc | apply pw_below_drewN | apply below_drew1 | refine below_set ?_ (IsS120.ge HI562.out)) | exact HB.out)⟩
              · rw [if_neg c38] at H
                have c38b0 : decide (0 < x8_1) = false := decide_eq_false c38
                clear c38
                simp only [Option.some.injEq, Prod.mk.injEq] at H
                obtain ⟨rfl, rfl⟩ := H
                go_wp2_with (first | ((with_reducible refine gate_callee (f := 83) rfl ?_); refine goesL_ (some 23) rfl rfl Try.func83 (by kernel_rfl) rfl #[.pointer (some ⟨g562, 0, none⟩)] rfl (by (try simp only [List.map_toArray, List.map_cons, List.map_nil]); first | done | rfl | (simp only [List.length_drop, List.length_take]; rfl)) ?_; (with_reducible refine (pack_Reader_Left.calls g562 x563000_1 x563001_1 t563 t564 t565 w _ ?side1 ?side2 A7.out).mono ?_); (case side1 => repeat (first | (with_reducible first | exact HI562.out | apply IsS120.alloc | apply IsS120.drewN | apply IsS120.drew | apply IsS120.set_0 | apply IsS120.set_1) | exact HI562.out)); (case side2 => repeat (first | (with_reducible first | exact HB.out | apply below_alloc | apply pw_below_drewN | apply below_drew1 | refine below_set ?_ (IsS120.ge HI562.out)) | exact HB.out)); rintro e w42 ⟨rfl, hi, hb, hk⟩; refine ⟨_, rfl, ?_⟩; have n0_ := Aside0.mk (Kd.R_mono (Kd.R_keep (IsS120.apart (show IsS120 w _ g562 x563000_1 x563001_1 from by repeat (first | (with_reducible first | exact HI562.out | apply IsS120.alloc | apply IsS120.drewN | apply IsS120.drew | apply IsS120.set_0 | apply IsS120.set_1) | exact HI562.out)) (by (with_reducible repeat (first | apply Kd.R_alloc | apply Kd.R_drewN | apply Kd.R_drew)); exact HO_7.out) (by decide)) hk (fun _ h => h.2)) (fun _ h => h.1)); have n1_ := Aside0.mk (hb); have n2_ := Aside0.mk (hi); clear HO_7; clear HB; clear HI562; have HO_7 := n0_; have HB := n1_; have HI562 := n2_; clear n0_ n1_ n2_; (try clear hb); (try clear hb2); (try clear hk); (try clear hi); obtain ⟨Ao43, co43, eo43⟩ := Kd.R_slice HO_7.out; subst eo43) | ((with_reducible refine gate_callee (f := 52) rfl ?_); refine goesL_ (some 57) rfl rfl Try.func52 (by kernel_rfl) rfl #[.slice Ao43 x7_1.length co43, .int .i64 a1] rfl (by (try simp only [List.map_toArray, List.map_cons, List.map_nil]); first | done | rfl | (simp only [List.length_drop, List.length_take]; rfl)) ?_; (with_reducible refine (flags_Spread.calls k1 _ _ x7_1 a1 t566 true _ ?side1 ?side2 A36.out).mono ?_); (case side1 => repeat (first | exact (Kd.R_reads' HO_7.out).2.2 | (with_reducible refine Kd.C_alloc ?_ _) | (with_reducible refine Kd.C_drewN ?_ _) | (with_reducible refine Kd.C_drew ?_))); (case side2 => exact (Kd.R_reads' HO_7.out).2.1); rintro e w44 ⟨v568, rfl, ho0, hb⟩; refine ⟨_, rfl, ?_⟩; have n0_ := Aside0.mk (Kd.R_below (by (with_reducible repeat (first | apply Kd.R_alloc | apply Kd.R_drewN | apply Kd.R_drew)); exact HO_7.out) hb); have n1_ := Aside0.mk (Kd.R_lower ho0 (below_size (by repeat (first | (with_reducible first | exact HB.out | apply below_alloc | apply pw_below_drewN | apply below_drew1 | refine below_set ?_ (IsS120.ge HI562.out)) | exact HB.out)))); have n2_ := Aside0.mk (IsS120.below (by repeat (first | (with_reducible first | exact HI562.out | apply IsS120.alloc | apply IsS120.drewN | apply IsS120.drew | apply IsS120.set_0 | apply IsS120.set_1) | exact HI562.out)) hb); have n3_ := Aside0.mk (below_step (by repeat (first | (with_reducible first | exact HB.out | apply below_alloc | apply pw_below_drewN | apply below_drew1 | refine below_set ?_ (IsS120.ge HI562.out)) | exact HB.out)) hb); clear HO_7; clear HI562; clear HB; have HO_7 := n0_; have HO569 := n1_; have HI562 := n2_; have HB := n3_; clear n0_ n1_ n2_ n3_; (try clear hb); (try clear hb2); (try clear hk); (try clear hi); (try clear ho0)))
                go_ret2
                exact ⟨_, by first | rfl | (simp [errW_none, errW_some] <;> rfl) | (simp [*, errW_none, errW_some] <;> rfl), by (with_reducible repeat (first | apply Kd.R_alloc | apply Kd.R_drewN | apply Kd.R_drew)); exact HO569.out, by repeat (first | (with_reducible first | exact HB.out | apply below_alloc | apply pw_below_drewN | apply below_drew1 | refine below_set ?_ (IsS120.ge HI562.out)) | exact HB.out)⟩
            · replace c37 := Bool.eq_false_iff.mpr c37
              subst c37
              have H1 : (some (([] : List Bool), 5)) = some (r1, r2) := by rw [if_neg (show ¬ (false = true) by decide)] at H; exact H
              clear H
              have H := H1
              clear H1
              simp only [Option.some.injEq, Prod.mk.injEq] at H
              obtain ⟨rfl, rfl⟩ := H
              go_wp2_with (first | ((with_reducible refine gate_callee (f := 83) rfl ?_); refine goesL_ (some 23) rfl rfl Try.func83 (by kernel_rfl) rfl #[.pointer (some ⟨g562, 0, none⟩)] rfl (by (try simp only [List.map_toArray, List.map_cons, List.map_nil]); first | done | rfl | (simp only [List.length_drop, List.length_take]; rfl)) ?_; (with_reducible refine (pack_Reader_Left.calls g562 x563000_1 x563001_1 t563 t564 t565 w _ ?side1 ?side2 A7.out).mono ?_); (case side1 => repeat (first | (with_reducible first | exact HI562.out | apply IsS120.alloc | apply IsS120.drewN | apply IsS120.drew | apply IsS120.set_0 | apply IsS120.set_1) | exact HI562.out)); (case side2 => repeat (first | (with_reducible first | exact HB.out | apply below_alloc | apply pw_below_drewN | apply below_drew1 | refine below_set ?_ (IsS120.ge HI562.out)) | exact HB.out)); rintro e w45 ⟨rfl, hi, hb, hk⟩; refine ⟨_, rfl, ?_⟩; have n0_ := Aside0.mk (Kd.R_mono (Kd.R_keep (IsS120.apart (show IsS120 w _ g562 x563000_1 x563001_1 from by repeat (first | (with_reducible first | exact HI562.out | apply IsS120.alloc | apply IsS120.drewN | apply IsS120.drew | apply IsS120.set_0 | apply IsS120.set_1) | exact HI562.out)) (by (with_reducible repeat (first | apply Kd.R_alloc | apply Kd.R_drewN | apply Kd.R_drew)); exact HO_7.out) (by decide)) hk (fun _ h => h.2)) (fun _ h => h.1)); have n1_ := Aside0.mk (hb); have n2_ := Aside0.mk (hi); clear HO_7; clear HB; clear HI562; have HO_7 := n0_; have HB := n1_; have HI562 := n2_; clear n0_ n1_ n2_; (try clear hb); (try clear hb2); (try clear hk); (try clear hi); obtain ⟨Ao46, co46, eo46⟩ := Kd.R_slice HO_7.out; subst eo46) | ((with_reducible refine gate_callee (f := 52) rfl ?_); refine goesL_ (some 57) rfl rfl Try.func52 (by kernel_rfl) rfl #[.slice Ao46 x7_1.length co46, .int .i64 a1] rfl (by (try simp only [List.map_toArray, List.map_cons, List.map_nil]); first | done | rfl | (simp only [List.length_drop, List.length_take]; rfl)) ?_; (with_reducible refine (flags_Spread.calls k1 _ _ x7_1 a1 t566 false _ ?side1 ?side2 A36.out).mono ?_); (case side1 => repeat (first | exact (Kd.R_reads' HO_7.out).2.2 | (with_reducible refine Kd.C_alloc ?_ _) | (with_reducible refine Kd.C_drewN ?_ _) | (with_reducible refine Kd.C_drew ?_))); (case side2 => exact (Kd.R_reads' HO_7.out).2.1); rintro e w47 ⟨v568, rfl, ho0, hb⟩; refine ⟨_, rfl, ?_⟩; have n0_ := Aside0.mk (Kd.R_below (by (with_reducible repeat (first | apply Kd.R_alloc | apply Kd.R_drewN | apply Kd.R_drew)); exact HO_7.out) hb); have n1_ := Aside0.mk (Kd.R_lower ho0 (below_size (by repeat (first | (with_reducible first | exact HB.out | apply below_alloc | apply pw_below_drewN | apply below_drew1 | refine below_set ?_ (IsS120.ge HI562.out)) | exact HB.out)))); have n2_ := Aside0.mk (IsS120.below (by repeat (first | (with_reducible first | exact HI562.out | apply IsS120.alloc | apply IsS120.drewN | apply IsS120.drew | apply IsS120.set_0 | apply IsS120.set_1) | exact HI562.out)) hb); have n3_ := Aside0.mk (below_step (by repeat (first | (with_reducible first | exact HB.out | apply below_alloc | apply pw_below_drewN | apply below_drew1 | refine below_set ?_ (IsS120.ge HI562.out)) | exact HB.out)) hb); clear HO_7; clear HI562; clear HB; have HO_7 := n0_; have HO569 := n1_; have HI562 := n2_; have HB := n3_; clear n0_ n1_ n2_ n3_; (try clear hb); (try clear hb2); (try clear hk); (try clear hi); (try clear ho0)))
              go_ret2
              exact ⟨_, by first | rfl | (simp [errW_none, errW_some] <;> rfl) | (simp [*, errW_none, errW_some] <;> rfl), by first | exact Kd.R_nil _ _ _ _ _ | exact Kd.N_nil _ _ _ _ _ | exact Kd.V_nil _ _ _ _ _ | exact Kd.Q_nil _ _ _ _ _ | exact Kd.S_nil _ _ _ _ _, by repeat (first | (with_reducible first | exact HB.out | apply below_alloc | apply pw_below_drewN | apply below_drew1 | refine below_set ?_ (IsS120.ge HI562.out)) | exact HB.out)⟩
def bonsailaw07_live.f (k : Nat)  : Option (Bool) := (some (([true, true, false] : List Bool) : List Bool)).bind fun y582 => ((flags_Encode.f k y582).bind fun t585 => ((flags_Decode.f k t585 3).bind fun bt586 => ((flags_Decode.f k t585 2).bind fun bt590 => ((flags_Decode.f k (⟨#[1, 0, 1]⟩ : ByteArray) 2).bind fun bt594 => ((flags_Decode.f k (⟨#[0]⟩ : ByteArray) 0).bind fun bt598 => ((flags_Spread.f k (([0, 2, 1] : List Int)) 3).bind fun bt605 => ((flags_Spread.f k (([0, 2, 1] : List Int)) 2).bind fun bt612 => ((flags_Spread.f k (([1, 0, 1] : List Int)) 9).bind fun bt619 => (if t585.toList = ([0, 2, 1] : List UInt8) then ((bonsairef07_Same.f k bt586.1 y582).bind fun t623 => (if t623 = true then (if bt586.2 = 0 then (if bt590.2 = 5 then (if bt594.2 = 5 then (if bt598.2 = 5 then ((bonsairef07_Same.f k bt605.1 y582).bind fun t624 => (if t624 = true then (if bt605.2 = true then (if bt612.2 = true then (none) else (if bt619.2 = true then (none) else ((flags_Lengths.f k y582).bind fun t625 => ((bonsairef05_Same.f k t625 (([0, 2, 1] : List Int))).bind fun t631 => (if t631 = true then ((flags_Lengths.f k ([] : List Bool)).bind fun t632 => (if (t632.length : Int) = 0 then ((flags_Count.f k y582).bind fun t635 => (some (t635 == 2))) else (none))) else (none)))))) else (none)) else (none))) else (none)) else (none)) else (none)) else (none)) else (none))) else (none))))))))))
theorem bonsailaw07_live.mono : ∀ k, LeO (bonsailaw07_live.f k ) (bonsailaw07_live.f (k + 1) ) := by
  intro  k
  unfold bonsailaw07_live.f
  repeat' first
      | (with_reducible exact bonsairef05_Same.mono _ _ _)
      | (with_reducible exact bonsairef07_Same.mono _ _ _)
      | (with_reducible exact flags_Count.mono _ _)
      | (with_reducible exact flags_Decode.mono _ _ _)
      | (with_reducible exact flags_Encode.mono _ _)
      | (with_reducible exact flags_Lengths.mono _ _)
      | (with_reducible exact flags_Spread.mono _ _ _)
      | (with_reducible exact LeO.refl _)
      | (with_reducible exact LeO.none _)
      | (with_reducible refine LeO.ite ?_ ?_)
      | (with_reducible refine LeO.bind ?_ (fun _ => ?_))
      | exact bonsairef05_Same.mono _ _ _
      | exact bonsairef07_Same.mono _ _ _
      | exact flags_Count.mono _ _
      | exact flags_Decode.mono _ _ _
      | exact flags_Encode.mono _ _
      | exact flags_Lengths.mono _ _
      | exact flags_Spread.mono _ _ _
      | exact LeO.none _
      | refine LeO.ite ?_ ?_
      | refine LeO.bind ?_ (fun _ => ?_)
set_option maxHeartbeats 8000000 in
set_option maxRecDepth 100000 in
theorem bonsailaw07_live.calls (k : Nat)  (r : Bool) (w : World) (h : bonsailaw07_live.f k  = some r) :
    Calls Try.prog 51 #[] w fun e w' => e = .returned (.bool r) ∧ Below w.heap.size w w' := by
  have HB := Aside0.mk (Below.refl w.heap.size w)
  have H : ((some (([true, true, false] : List Bool) : List Bool)).bind fun y582 => ((flags_Encode.f k y582).bind fun t585 => ((flags_Decode.f k t585 3).bind fun bt586 => ((flags_Decode.f k t585 2).bind fun bt590 => ((flags_Decode.f k (⟨#[1, 0, 1]⟩ : ByteArray) 2).bind fun bt594 => ((flags_Decode.f k (⟨#[0]⟩ : ByteArray) 0).bind fun bt598 => ((flags_Spread.f k (([0, 2, 1] : List Int)) 3).bind fun bt605 => ((flags_Spread.f k (([0, 2, 1] : List Int)) 2).bind fun bt612 => ((flags_Spread.f k (([1, 0, 1] : List Int)) 9).bind fun bt619 => (if t585.toList = ([0, 2, 1] : List UInt8) then ((bonsairef07_Same.f k bt586.1 y582).bind fun t623 => (if t623 = true then (if bt586.2 = 0 then (if bt590.2 = 5 then (if bt594.2 = 5 then (if bt598.2 = 5 then ((bonsairef07_Same.f k bt605.1 y582).bind fun t624 => (if t624 = true then (if bt605.2 = true then (if bt612.2 = true then (none) else (if bt619.2 = true then (none) else ((flags_Lengths.f k y582).bind fun t625 => ((bonsairef05_Same.f k t625 (([0, 2, 1] : List Int))).bind fun t631 => (if t631 = true then ((flags_Lengths.f k ([] : List Bool)).bind fun t632 => (if (t632.length : Int) = 0 then ((flags_Count.f k y582).bind fun t635 => (some (t635 == 2))) else (none))) else (none)))))) else (none)) else (none))) else (none)) else (none)) else (none)) else (none)) else (none))) else (none))))))))))) = some r := h
  clear h
  obtain ⟨y582, hy582⟩ : ∃ y_ : List Bool, y_ = (([true, true, false] : List Bool)) := ⟨_, rfl⟩
  replace H : ((flags_Encode.f k y582).bind fun t585 => ((flags_Decode.f k t585 3).bind fun bt586 => ((flags_Decode.f k t585 2).bind fun bt590 => ((flags_Decode.f k (⟨#[1, 0, 1]⟩ : ByteArray) 2).bind fun bt594 => ((flags_Decode.f k (⟨#[0]⟩ : ByteArray) 0).bind fun bt598 => ((flags_Spread.f k (([0, 2, 1] : List Int)) 3).bind fun bt605 => ((flags_Spread.f k (([0, 2, 1] : List Int)) 2).bind fun bt612 => ((flags_Spread.f k (([1, 0, 1] : List Int)) 9).bind fun bt619 => (if t585.toList = ([0, 2, 1] : List UInt8) then ((bonsairef07_Same.f k bt586.1 y582).bind fun t623 => (if t623 = true then (if bt586.2 = 0 then (if bt590.2 = 5 then (if bt594.2 = 5 then (if bt598.2 = 5 then ((bonsairef07_Same.f k bt605.1 y582).bind fun t624 => (if t624 = true then (if bt605.2 = true then (if bt612.2 = true then (none) else (if bt619.2 = true then (none) else ((flags_Lengths.f k y582).bind fun t625 => ((bonsairef05_Same.f k t625 (([0, 2, 1] : List Int))).bind fun t631 => (if t631 = true then ((flags_Lengths.f k ([] : List Bool)).bind fun t632 => (if (t632.length : Int) = 0 then ((flags_Count.f k y582).bind fun t635 => (some (t635 == 2))) else (none))) else (none)))))) else (none)) else (none))) else (none)) else (none)) else (none)) else (none)) else (none))) else (none)))))))))) = some r := by first | (rw [hy582]; with_reducible exact H) | (have H2_ := (Option.bind_some _ _).symm.trans H; rw [hy582]; with_reducible exact H2_) | (have H2_ := (Option.bind_some _ _).symm.trans H; with_reducible exact H2_) | with_reducible exact H | (rw [hy582]; exact H) | exact H
  have Ny582 := Aside0.mk hy582
  clear hy582
  replace H := Option.bind_eq_some_iff.mp H
  obtain ⟨t585, A10, H⟩ := H
  replace H : ((flags_Decode.f k t585 3).bind fun bt586 => ((flags_Decode.f k t585 2).bind fun bt590 => ((flags_Decode.f k (⟨#[1, 0, 1]⟩ : ByteArray) 2).bind fun bt594 => ((flags_Decode.f k (⟨#[0]⟩ : ByteArray) 0).bind fun bt598 => ((flags_Spread.f k (([0, 2, 1] : List Int)) 3).bind fun bt605 => ((flags_Spread.f k (([0, 2, 1] : List Int)) 2).bind fun bt612 => ((flags_Spread.f k (([1, 0, 1] : List Int)) 9).bind fun bt619 => (if t585.toList = ([0, 2, 1] : List UInt8) then ((bonsairef07_Same.f k bt586.1 y582).bind fun t623 => (if t623 = true then (if bt586.2 = 0 then (if bt590.2 = 5 then (if bt594.2 = 5 then (if bt598.2 = 5 then ((bonsairef07_Same.f k bt605.1 y582).bind fun t624 => (if t624 = true then (if bt605.2 = true then (if bt612.2 = true then (none) else (if bt619.2 = true then (none) else ((flags_Lengths.f k y582).bind fun t625 => ((bonsairef05_Same.f k t625 (([0, 2, 1] : List Int))).bind fun t631 => (if t631 = true then ((flags_Lengths.f k ([] : List Bool)).bind fun t632 => (if (t632.length : Int) = 0 then ((flags_Count.f k y582).bind fun t635 => (some (t635 == 2))) else (none))) else (none)))))) else (none)) else (none))) else (none)) else (none)) else (none)) else (none)) else (none))) else (none))))))))) = some r := H
  have A1 := Aside0.mk A10
  clear A10
  replace H := Option.bind_eq_some_iff.mp H
  obtain ⟨⟨t586, t587⟩, A20, H⟩ := H
  replace H : ((flags_Decode.f k t585 2).bind fun bt590 => ((flags_Decode.f k (⟨#[1, 0, 1]⟩ : ByteArray) 2).bind fun bt594 => ((flags_Decode.f k (⟨#[0]⟩ : ByteArray) 0).bind fun bt598 => ((flags_Spread.f k (([0, 2, 1] : List Int)) 3).bind fun bt605 => ((flags_Spread.f k (([0, 2, 1] : List Int)) 2).bind fun bt612 => ((flags_Spread.f k (([1, 0, 1] : List Int)) 9).bind fun bt619 => (if t585.toList = ([0, 2, 1] : List UInt8) then ((bonsairef07_Same.f k t586 y582).bind fun t623 => (if t623 = true then (if t587 = 0 then (if bt590.2 = 5 then (if bt594.2 = 5 then (if bt598.2 = 5 then ((bonsairef07_Same.f k bt605.1 y582).bind fun t624 => (if t624 = true then (if bt605.2 = true then (if bt612.2 = true then (none) else (if bt619.2 = true then (none) else ((flags_Lengths.f k y582).bind fun t625 => ((bonsairef05_Same.f k t625 (([0, 2, 1] : List Int))).bind fun t631 => (if t631 = true then ((flags_Lengths.f k ([] : List Bool)).bind fun t632 => (if (t632.length : Int) = 0 then ((flags_Count.f k y582).bind fun t635 => (some (t635 == 2))) else (none))) else (none)))))) else (none)) else (none))) else (none)) else (none)) else (none)) else (none)) else (none))) else (none)))))))) = some r := H
  have A2 := Aside0.mk A20
  clear A20
  replace H := Option.bind_eq_some_iff.mp H
  obtain ⟨⟨t590, t591⟩, A30, H⟩ := H
  replace H : ((flags_Decode.f k (⟨#[1, 0, 1]⟩ : ByteArray) 2).bind fun bt594 => ((flags_Decode.f k (⟨#[0]⟩ : ByteArray) 0).bind fun bt598 => ((flags_Spread.f k (([0, 2, 1] : List Int)) 3).bind fun bt605 => ((flags_Spread.f k (([0, 2, 1] : List Int)) 2).bind fun bt612 => ((flags_Spread.f k (([1, 0, 1] : List Int)) 9).bind fun bt619 => (if t585.toList = ([0, 2, 1] : List UInt8) then ((bonsairef07_Same.f k t586 y582).bind fun t623 => (if t623 = true then (if t587 = 0 then (if t591 = 5 then (if bt594.2 = 5 then (if bt598.2 = 5 then ((bonsairef07_Same.f k bt605.1 y582).bind fun t624 => (if t624 = true then (if bt605.2 = true then (if bt612.2 = true then (none) else (if bt619.2 = true then (none) else ((flags_Lengths.f k y582).bind fun t625 => ((bonsairef05_Same.f k t625 (([0, 2, 1] : List Int))).bind fun t631 => (if t631 = true then ((flags_Lengths.f k ([] : List Bool)).bind fun t632 => (if (t632.length : Int) = 0 then ((flags_Count.f k y582).bind fun t635 => (some (t635 == 2))) else (none))) else (none)))))) else (none)) else (none))) else (none)) else (none)) else (none)) else (none)) else (none))) else (none))))))) = some r := H
  have A3 := Aside0.mk A30
  clear A30
  replace H := Option.bind_eq_some_iff.mp H
  obtain ⟨⟨t594, t595⟩, A40, H⟩ := H
  replace H : ((flags_Decode.f k (⟨#[0]⟩ : ByteArray) 0).bind fun bt598 => ((flags_Spread.f k (([0, 2, 1] : List Int)) 3).bind fun bt605 => ((flags_Spread.f k (([0, 2, 1] : List Int)) 2).bind fun bt612 => ((flags_Spread.f k (([1, 0, 1] : List Int)) 9).bind fun bt619 => (if t585.toList = ([0, 2, 1] : List UInt8) then ((bonsairef07_Same.f k t586 y582).bind fun t623 => (if t623 = true then (if t587 = 0 then (if t591 = 5 then (if t595 = 5 then (if bt598.2 = 5 then ((bonsairef07_Same.f k bt605.1 y582).bind fun t624 => (if t624 = true then (if bt605.2 = true then (if bt612.2 = true then (none) else (if bt619.2 = true then (none) else ((flags_Lengths.f k y582).bind fun t625 => ((bonsairef05_Same.f k t625 (([0, 2, 1] : List Int))).bind fun t631 => (if t631 = true then ((flags_Lengths.f k ([] : List Bool)).bind fun t632 => (if (t632.length : Int) = 0 then ((flags_Count.f k y582).bind fun t635 => (some (t635 == 2))) else (none))) else (none)))))) else (none)) else (none))) else (none)) else (none)) else (none)) else (none)) else (none))) else (none)))))) = some r := H
  have A4 := Aside0.mk A40
  clear A40
  replace H := Option.bind_eq_some_iff.mp H
  obtain ⟨⟨t598, t599⟩, A50, H⟩ := H
  replace H : ((flags_Spread.f k (([0, 2, 1] : List Int)) 3).bind fun bt605 => ((flags_Spread.f k (([0, 2, 1] : List Int)) 2).bind fun bt612 => ((flags_Spread.f k (([1, 0, 1] : List Int)) 9).bind fun bt619 => (if t585.toList = ([0, 2, 1] : List UInt8) then ((bonsairef07_Same.f k t586 y582).bind fun t623 => (if t623 = true then (if t587 = 0 then (if t591 = 5 then (if t595 = 5 then (if t599 = 5 then ((bonsairef07_Same.f k bt605.1 y582).bind fun t624 => (if t624 = true then (if bt605.2 = true then (if bt612.2 = true then (none) else (if bt619.2 = true then (none) else ((flags_Lengths.f k y582).bind fun t625 => ((bonsairef05_Same.f k t625 (([0, 2, 1] : List Int))).bind fun t631 => (if t631 = true then ((flags_Lengths.f k ([] : List Bool)).bind fun t632 => (if (t632.length : Int) = 0 then ((flags_Count.f k y582).bind fun t635 => (some (t635 == 2))) else (none))) else (none)))))) else (none)) else (none))) else (none)) else (none)) else (none)) else (none)) else (none))) else (none))))) = some r := H
  have A5 := Aside0.mk A50
  clear A50
  obtain ⟨y602, hy602⟩ : ∃ y_ : List Int, y_ = (([0, 2, 1] : List Int)) := ⟨_, rfl⟩
  replace H : ((flags_Spread.f k y602 3).bind fun bt605 => ((flags_Spread.f k (([0, 2, 1] : List Int)) 2).bind fun bt612 => ((flags_Spread.f k (([1, 0, 1] : List Int)) 9).bind fun bt619 => (if t585.toList = ([0, 2, 1] : List UInt8) then ((bonsairef07_Same.f k t586 y582).bind fun t623 => (if t623 = true then (if t587 = 0 then (if t591 = 5 then (if t595 = 5 then (if t599 = 5 then ((bonsairef07_Same.f k bt605.1 y582).bind fun t624 => (if t624 = true then (if bt605.2 = true then (if bt612.2 = true then (none) else (if bt619.2 = true then (none) else ((flags_Lengths.f k y582).bind fun t625 => ((bonsairef05_Same.f k t625 (([0, 2, 1] : List Int))).bind fun t631 => (if t631 = true then ((flags_Lengths.f k ([] : List Bool)).bind fun t632 => (if (t632.length : Int) = 0 then ((flags_Count.f k y582).bind fun t635 => (some (t635 == 2))) else (none))) else (none)))))) else (none)) else (none))) else (none)) else (none)) else (none)) else (none)) else (none))) else (none))))) = some r := by first | (rw [hy602]; with_reducible exact H) | (have H2_ := (Option.bind_some _ _).symm.trans H; rw [hy602]; with_reducible exact H2_) | (have H2_ := (Option.bind_some _ _).symm.trans H; with_reducible exact H2_) | with_reducible exact H | (rw [hy602]; exact H) | exact H
  have Ny602 := Aside0.mk hy602
  clear hy602
  replace H := Option.bind_eq_some_iff.mp H
  obtain ⟨⟨t605, t606⟩, A60, H⟩ := H
  replace H : ((flags_Spread.f k (([0, 2, 1] : List Int)) 2).bind fun bt612 => ((flags_Spread.f k (([1, 0, 1] : List Int)) 9).bind fun bt619 => (if t585.toList = ([0, 2, 1] : List UInt8) then ((bonsairef07_Same.f k t586 y582).bind fun t623 => (if t623 = true then (if t587 = 0 then (if t591 = 5 then (if t595 = 5 then (if t599 = 5 then ((bonsairef07_Same.f k t605 y582).bind fun t624 => (if t624 = true then (if t606 = true then (if bt612.2 = true then (none) else (if bt619.2 = true then (none) else ((flags_Lengths.f k y582).bind fun t625 => ((bonsairef05_Same.f k t625 (([0, 2, 1] : List Int))).bind fun t631 => (if t631 = true then ((flags_Lengths.f k ([] : List Bool)).bind fun t632 => (if (t632.length : Int) = 0 then ((flags_Count.f k y582).bind fun t635 => (some (t635 == 2))) else (none))) else (none)))))) else (none)) else (none))) else (none)) else (none)) else (none)) else (none)) else (none))) else (none)))) = some r := H
  have A6 := Aside0.mk A60
  clear A60
  obtain ⟨y609, hy609⟩ : ∃ y_ : List Int, y_ = (([0, 2, 1] : List Int)) := ⟨_, rfl⟩
  replace H : ((flags_Spread.f k y609 2).bind fun bt612 => ((flags_Spread.f k (([1, 0, 1] : List Int)) 9).bind fun bt619 => (if t585.toList = ([0, 2, 1] : List UInt8) then ((bonsairef07_Same.f k t586 y582).bind fun t623 => (if t623 = true then (if t587 = 0 then (if t591 = 5 then (if t595 = 5 then (if t599 = 5 then ((bonsairef07_Same.f k t605 y582).bind fun t624 => (if t624 = true then (if t606 = true then (if bt612.2 = true then (none) else (if bt619.2 = true then (none) else ((flags_Lengths.f k y582).bind fun t625 => ((bonsairef05_Same.f k t625 (([0, 2, 1] : List Int))).bind fun t631 => (if t631 = true then ((flags_Lengths.f k ([] : List Bool)).bind fun t632 => (if (t632.length : Int) = 0 then ((flags_Count.f k y582).bind fun t635 => (some (t635 == 2))) else (none))) else (none)))))) else (none)) else (none))) else (none)) else (none)) else (none)) else (none)) else (none))) else (none)))) = some r := by first | (rw [hy609]; with_reducible exact H) | (have H2_ := (Option.bind_some _ _).symm.trans H; rw [hy609]; with_reducible exact H2_) | (have H2_ := (Option.bind_some _ _).symm.trans H; with_reducible exact H2_) | with_reducible exact H | (rw [hy609]; exact H) | exact H
  have Ny609 := Aside0.mk hy609
  clear hy609
  replace H := Option.bind_eq_some_iff.mp H
  obtain ⟨⟨t612, t613⟩, A70, H⟩ := H
  replace H : ((flags_Spread.f k (([1, 0, 1] : List Int)) 9).bind fun bt619 => (if t585.toList = ([0, 2, 1] : List UInt8) then ((bonsairef07_Same.f k t586 y582).bind fun t623 => (if t623 = true then (if t587 = 0 then (if t591 = 5 then (if t595 = 5 then (if t599 = 5 then ((bonsairef07_Same.f k t605 y582).bind fun t624 => (if t624 = true then (if t606 = true then (if t613 = true then (none) else (if bt619.2 = true then (none) else ((flags_Lengths.f k y582).bind fun t625 => ((bonsairef05_Same.f k t625 (([0, 2, 1] : List Int))).bind fun t631 => (if t631 = true then ((flags_Lengths.f k ([] : List Bool)).bind fun t632 => (if (t632.length : Int) = 0 then ((flags_Count.f k y582).bind fun t635 => (some (t635 == 2))) else (none))) else (none)))))) else (none)) else (none))) else (none)) else (none)) else (none)) else (none)) else (none))) else (none))) = some r := H
  have A7 := Aside0.mk A70
  clear A70
  obtain ⟨y616, hy616⟩ : ∃ y_ : List Int, y_ = (([1, 0, 1] : List Int)) := ⟨_, rfl⟩
  replace H : ((flags_Spread.f k y616 9).bind fun bt619 => (if t585.toList = ([0, 2, 1] : List UInt8) then ((bonsairef07_Same.f k t586 y582).bind fun t623 => (if t623 = true then (if t587 = 0 then (if t591 = 5 then (if t595 = 5 then (if t599 = 5 then ((bonsairef07_Same.f k t605 y582).bind fun t624 => (if t624 = true then (if t606 = true then (if t613 = true then (none) else (if bt619.2 = true then (none) else ((flags_Lengths.f k y582).bind fun t625 => ((bonsairef05_Same.f k t625 (([0, 2, 1] : List Int))).bind fun t631 => (if t631 = true then ((flags_Lengths.f k ([] : List Bool)).bind fun t632 => (if (t632.length : Int) = 0 then ((flags_Count.f k y582).bind fun t635 => (some (t635 == 2))) else (none))) else (none)))))) else (none)) else (none))) else (none)) else (none)) else (none)) else (none)) else (none))) else (none))) = some r := by first | (rw [hy616]; with_reducible exact H) | (have H2_ := (Option.bind_some _ _).symm.trans H; rw [hy616]; with_reducible exact H2_) | (have H2_ := (Option.bind_some _ _).symm.trans H; with_reducible exact H2_) | with_reducible exact H | (rw [hy616]; exact H) | exact H
  have Ny616 := Aside0.mk hy616
  clear hy616
  replace H := Option.bind_eq_some_iff.mp H
  obtain ⟨⟨t619, t620⟩, A80, H⟩ := H
  replace H : (if t585.toList = ([0, 2, 1] : List UInt8) then ((bonsairef07_Same.f k t586 y582).bind fun t623 => (if t623 = true then (if t587 = 0 then (if t591 = 5 then (if t595 = 5 then (if t599 = 5 then ((bonsairef07_Same.f k t605 y582).bind fun t624 => (if t624 = true then (if t606 = true then (if t613 = true then (none) else (if t620 = true then (none) else ((flags_Lengths.f k y582).bind fun t625 => ((bonsairef05_Same.f k t625 (([0, 2, 1] : List Int))).bind fun t631 => (if t631 = true then ((flags_Lengths.f k ([] : List Bool)).bind fun t632 => (if (t632.length : Int) = 0 then ((flags_Count.f k y582).bind fun t635 => (some (t635 == 2))) else (none))) else (none)))))) else (none)) else (none))) else (none)) else (none)) else (none)) else (none)) else (none))) else (none)) = some r := H
  have A8 := Aside0.mk A80
  clear A80
  by_cases c9 : t585.toList = ([0, 2, 1] : List UInt8)
  · rw [if_pos c9] at H
    have c9b0 : (t585.toList == ([0, 2, 1] : List UInt8)) = true := beq_iff_eq.mpr c9
    have c9b1 : (t585.toList != ([0, 2, 1] : List UInt8)) = false := bne_eq_false_iff_eq.mpr c9
    clear c9
    replace H := Option.bind_eq_some_iff.mp H
    obtain ⟨t623, A100, H⟩ := H
    replace H : (if t623 = true then (if t587 = 0 then (if t591 = 5 then (if t595 = 5 then (if t599 = 5 then ((bonsairef07_Same.f k t605 y582).bind fun t624 => (if t624 = true then (if t606 = true then (if t613 = true then (none) else (if t620 = true then (none) else ((flags_Lengths.f k y582).bind fun t625 => ((bonsairef05_Same.f k t625 (([0, 2, 1] : List Int))).bind fun t631 => (if t631 = true then ((flags_Lengths.f k ([] : List Bool)).bind fun t632 => (if (t632.length : Int) = 0 then ((flags_Count.f k y582).bind fun t635 => (some (t635 == 2))) else (none))) else (none)))))) else (none)) else (none))) else (none)) else (none)) else (none)) else (none)) else (none)) = some r := H
    have A10 := Aside0.mk A100
    clear A100
    by_cases c11 : t623 = true
    · subst c11
      have H1 : (if t587 = 0 then (if t591 = 5 then (if t595 = 5 then (if t599 = 5 then ((bonsairef07_Same.f k t605 y582).bind fun t624 => (if t624 = true then (if t606 = true then (if t613 = true then (none) else (if t620 = true then (none) else ((flags_Lengths.f k y582).bind fun t625 => ((bonsairef05_Same.f k t625 (([0, 2, 1] : List Int))).bind fun t631 => (if t631 = true then ((flags_Lengths.f k ([] : List Bool)).bind fun t632 => (if (t632.length : Int) = 0 then ((flags_Count.f k y582).bind fun t635 => (some (t635 == 2))) else (none))) else (none)))))) else (none)) else (none))) else (none)) else (none)) else (none)) else (none)) = some r := by rw [if_pos rfl] at H; exact H
      clear H
      have H := H1
      clear H1
      by_cases c12 : t587 = 0
      · rw [if_pos c12] at H
        have c12b0 : (t587 == 0) = true := beq_iff_eq.mpr c12
        have c12b1 : (t587 != 0) = false := bne_eq_false_iff_eq.mpr c12
        clear c12
        by_cases c13 : t591 = 5
        · rw [if_pos c13] at H
          have c13b0 : (t591 == 5) = true := beq_iff_eq.mpr c13
          have c13b1 : (t591 != 5) = false := bne_eq_false_iff_eq.mpr c13
          clear c13
          by_cases c14 : t595 = 5
          · rw [if_pos c14] at H
            have c14b0 : (t595 == 5) = true := beq_iff_eq.mpr c14
            have c14b1 : (t595 != 5) = false := bne_eq_false_iff_eq.mpr c14
            clear c14
            by_cases c15 : t599 = 5
            · rw [if_pos c15] at H
              have c15b0 : (t599 == 5) = true := beq_iff_eq.mpr c15
              have c15b1 : (t599 != 5) = false := bne_eq_false_iff_eq.mpr c15
              clear c15
              replace H := Option.bind_eq_some_iff.mp H
              obtain ⟨t624, A160, H⟩ := H
              replace H : (if t624 = true then (if t606 = true then (if t613 = true then (none) else (if t620 = true then (none) else ((flags_Lengths.f k y582).bind fun t625 => ((bonsairef05_Same.f k t625 (([0, 2, 1] : List Int))).bind fun t631 => (if t631 = true then ((flags_Lengths.f k ([] : List Bool)).bind fun t632 => (if (t632.length : Int) = 0 then ((flags_Count.f k y582).bind fun t635 => (some (t635 == 2))) else (none))) else (none)))))) else (none)) else (none)) = some r := H
              have A16 := Aside0.mk A160
              clear A160
              by_cases c17 : t624 = true
              · subst c17
                have H1 : (if t606 = true then (if t613 = true then (none) else (if t620 = true then (none) else ((flags_Lengths.f k y582).bind fun t625 => ((bonsairef05_Same.f k t625 (([0, 2, 1] : List Int))).bind fun t631 => (if t631 = true then ((flags_Lengths.f k ([] : List Bool)).bind fun t632 => (if (t632.length : Int) = 0 then ((flags_Count.f k y582).bind fun t635 => (some (t635 == 2))) else (none))) else (none)))))) else (none)) = some r := by rw [if_pos rfl] at H; exact H
                clear H
                have H := H1
                clear H1
                by_cases c18 : t606 = true
                · subst c18
                  have H1 : (if t613 = true then (none) else (if t620 = true then (none) else ((flags_Lengths.f k y582).bind fun t625 => ((bonsairef05_Same.f k t625 (([0, 2, 1] : List Int))).bind fun t631 => (if t631 = true then ((flags_Lengths.f k ([] : List Bool)).bind fun t632 => (if (t632.length : Int) = 0 then ((flags_Count.f k y582).bind fun t635 => (some (t635 == 2))) else (none))) else (none)))))) = some r := by rw [if_pos rfl] at H; exact H
                  clear H
                  have H := H1
                  clear H1
                  by_cases c19 : t613 = true
                  · subst c19
                    have H1 : (none) = some r := by rw [if_pos rfl] at H; exact H
                    clear H
                    have H := H1
                    clear H1
                    exact absurd H (by simp)
                  · replace c19 := Bool.eq_false_iff.mpr c19
                    subst c19
                    have H1 : (if t620 = true then (none) else ((flags_Lengths.f k y582).bind fun t625 => ((bonsairef05_Same.f k t625 (([0, 2, 1] : List Int))).bind fun t631 => (if t631 = true then ((flags_Lengths.f k ([] : List Bool)).bind fun t632 => (if (t632.length : Int) = 0 then ((flags_Count.f k y582).bind fun t635 => (some (t635 == 2))) else (none))) else (none))))) = some r := by rw [if_neg (show ¬ (false = true) by decide)] at H; exact H
                    clear H
                    have H := H1
                    clear H1
                    by_cases c20 : t620 = true
                    · subst c20
                      have H1 : (none) = some r := by rw [if_pos rfl] at H; exact H
                      clear H
                      have H := H1
                      clear H1
                      exact absurd H (by simp)
                    · replace c20 := Bool.eq_false_iff.mpr c20
                      subst c20
                      have H1 : ((flags_Lengths.f k y582).bind fun t625 => ((bonsairef05_Same.f k t625 (([0, 2, 1] : List Int))).bind fun t631 => (if t631 = true then ((flags_Lengths.f k ([] : List Bool)).bind fun t632 => (if (t632.length : Int) = 0 then ((flags_Count.f k y582).bind fun t635 => (some (t635 == 2))) else (none))) else (none)))) = some r := by rw [if_neg (show ¬ (false = true) by decide)] at H; exact H
                      clear H
                      have H := H1
                      clear H1
                      replace H := Option.bind_eq_some_iff.mp H
                      obtain ⟨t625, A210, H⟩ := H
                      replace H : ((bonsairef05_Same.f k t625 (([0, 2, 1] : List Int))).bind fun t631 => (if t631 = true then ((flags_Lengths.f k ([] : List Bool)).bind fun t632 => (if (t632.length : Int) = 0 then ((flags_Count.f k y582).bind fun t635 => (some (t635 == 2))) else (none))) else (none))) = some r := H
                      have A21 := Aside0.mk A210
                      clear A210
                      obtain ⟨y628, hy628⟩ : ∃ y_ : List Int, y_ = (([0, 2, 1] : List Int)) := ⟨_, rfl⟩
                      replace H : ((bonsairef05_Same.f k t625 y628).bind fun t631 => (if t631 = true then ((flags_Lengths.f k ([] : List Bool)).bind fun t632 => (if (t632.length : Int) = 0 then ((flags_Count.f k y582).bind fun t635 => (some (t635 == 2))) else (none))) else (none))) = some r := by first | (rw [hy628]; with_reducible exact H) | (have H2_ := (Option.bind_some _ _).symm.trans H; rw [hy628]; with_reducible exact H2_) | (have H2_ := (Option.bind_some _ _).symm.trans H; with_reducible exact H2_) | with_reducible exact H | (rw [hy628]; exact H) | exact H
                      have Ny628 := Aside0.mk hy628
                      clear hy628
                      replace H := Option.bind_eq_some_iff.mp H
                      obtain ⟨t631, A220, H⟩ := H
                      replace H : (if t631 = true then ((flags_Lengths.f k ([] : List Bool)).bind fun t632 => (if (t632.length : Int) = 0 then ((flags_Count.f k y582).bind fun t635 => (some (t635 == 2))) else (none))) else (none)) = some r := H
                      have A22 := Aside0.mk A220
                      clear A220
                      by_cases c23 : t631 = true
                      · subst c23
                        have H1 : ((flags_Lengths.f k ([] : List Bool)).bind fun t632 => (if (t632.length : Int) = 0 then ((flags_Count.f k y582).bind fun t635 => (some (t635 == 2))) else (none))) = some r := by rw [if_pos rfl] at H; exact H
                        clear H
                        have H := H1
                        clear H1
                        replace H := Option.bind_eq_some_iff.mp H
                        obtain ⟨t632, A240, H⟩ := H
                        replace H : (if (t632.length : Int) = 0 then ((flags_Count.f k y582).bind fun t635 => (some (t635 == 2))) else (none)) = some r := H
                        have A24 := Aside0.mk A240
                        clear A240
                        by_cases c25 : (t632.length : Int) = 0
                        · rw [if_pos c25] at H
                          have c25b0 : ((t632.length : Int) == 0) = true := beq_iff_eq.mpr c25
                          have c25b1 : ((t632.length : Int) != 0) = false := bne_eq_false_iff_eq.mpr c25
                          clear c25
                          replace H := Option.bind_eq_some_iff.mp H
                          obtain ⟨t635, A260, H⟩ := H
                          replace H : (some (t635 == 2)) = some r := H
                          have A26 := Aside0.mk A260
                          clear A260
                          obtain rfl := Option.some.inj H
                          go_enter Try.func51, Try.ntmps51
                          go_wp2_with (first | ((with_reducible refine gate_dst (N := 17) rfl ?_); (try (refine gate_guard (by rfl) ?_; dsimp only)); refine Kd.R_lit Kd.bool _ 4 ?hg (N := 17) ?hd (xs := ([true, true, false] : List Bool)) (inner := [.bool true, .bool true, .bool false]) (ok := fun _ => True) (okp := fun _ => True) ?hr ?hp (fun _ hk => hk) trivial (Below.refl _ _) (Nat.le_refl _) (by simp) ?_; (case hd => rfl); (case hg => rfl); (case hr => first | (go_simp; done) | (go_simp; rfl)); (case hp => exact (Reps.one (show Kd.M Kd.bool _ _ _ true [.bool true] from rfl) (Reps.one (show Kd.M Kd.bool _ _ _ true [.bool true] from rfl) (Reps.one (show Kd.M Kd.bool _ _ _ false [.bool false] from rfl) (Reps.none _ _))))); intro v583 w27 ho28 hb hg_ hnew_; clear hg_ hnew_; (first | rw [← Ny582.out] at ho28 | (simp only [Int.reduceToNat] at ho28; rw [← Ny582.out] at ho28)); have n0_ := Aside0.mk (Kd.R_lower ho28 (below_size (by repeat (first | (with_reducible first | exact HB.out | apply below_alloc | apply pw_below_drewN | apply below_drew1) | exact HB.out)))); have n1_ := Aside0.mk (below_step (by repeat (first | (with_reducible first | exact HB.out | apply below_alloc | apply pw_below_drewN | apply below_drew1) | exact HB.out)) hb); clear HB; have HO584 := n0_; have HB := n1_; clear n0_ n1_; clear hb ho28; obtain ⟨Ao29, co29, eo29⟩ := Kd.R_slice HO584.out; subst eo29) | ((with_reducible refine gate_callee (f := 57) rfl ?_); refine goesL_ (some 19) rfl rfl Try.func57 (by kernel_rfl) rfl #[.slice Ao29 y582.length co29] rfl (by (try simp only [List.map_toArray, List.map_cons, List.map_nil]); first | done | rfl | (simp only [List.length_drop, List.length_take]; rfl)) ?_; (with_reducible refine (flags_Encode.calls k _ _ y582 t585 _ ?side1 ?side2 A1.out).mono ?_); (case side1 => repeat (first | exact (Kd.R_reads' HO584.out).2.2 | (with_reducible refine Kd.C_alloc ?_ _) | (with_reducible refine Kd.C_drewN ?_ _) | (with_reducible refine Kd.C_drew ?_))); (case side2 => exact (Kd.R_reads' HO584.out).2.1); rintro e w30 ⟨rfl, hb⟩; refine ⟨_, rfl, ?_⟩; have n0_ := Aside0.mk (Kd.R_below (by (with_reducible repeat (first | apply Kd.R_alloc | apply Kd.R_drewN | apply Kd.R_drew)); exact HO584.out) hb); have n1_ := Aside0.mk (below_step (by repeat (first | (with_reducible first | exact HB.out | apply below_alloc | apply pw_below_drewN | apply below_drew1) | exact HB.out)) hb); clear HO584; clear HB; have HO584 := n0_; have HB := n1_; clear n0_ n1_; (try clear hb); (try clear hb2); (try clear hk); (try clear hi)) | ((with_reducible refine gate_callee (f := 62) rfl ?_); refine goesL_ (some 22) rfl rfl Try.func62 (by kernel_rfl) rfl #[.string t585, .int .i64 3] rfl (by (try simp only [List.map_toArray, List.map_cons, List.map_nil]); first | done | rfl | (simp only [List.length_drop, List.length_take]; rfl)) ?_; (with_reducible refine (flags_Decode.calls k t585 3 t586 t587 _ A2.out).mono ?_); rintro e w31 ⟨v588, rfl, ho0, hb⟩; refine ⟨_, rfl, ?_⟩; have n0_ := Aside0.mk (Kd.R_elder' (by (with_reducible repeat (first | apply Kd.R_alloc | apply Kd.R_drewN | apply Kd.R_drew)); exact HO584.out) (Kd.R_base ho0) hb); have n1_ := Aside0.mk (Kd.R_lower (Kd.R_new' ho0 (Kd.R_lt (by (with_reducible repeat (first | apply Kd.R_alloc | apply Kd.R_drewN | apply Kd.R_drew)); exact HO584.out))) (below_size (by repeat (first | (with_reducible first | exact HB.out | apply below_alloc | apply pw_below_drewN | apply below_drew1) | exact HB.out)))); have n2_ := Aside0.mk (below_step (by repeat (first | (with_reducible first | exact HB.out | apply below_alloc | apply pw_below_drewN | apply below_drew1) | exact HB.out)) hb); clear HO584; clear HB; have HO584 := n0_; have HO589 := n1_; have HB := n2_; clear n0_ n1_ n2_; (try clear hb); (try clear hb2); (try clear hk); (try clear hi); (try clear ho0)) | ((with_reducible refine gate_callee (f := 62) rfl ?_); refine goesL_ (some 27) rfl rfl Try.func62 (by kernel_rfl) rfl #[.string t585, .int .i64 2] rfl (by (try simp only [List.map_toArray, List.map_cons, List.map_nil]); first | done | rfl | (simp only [List.length_drop, List.length_take]; rfl)) ?_; (with_reducible refine (flags_Decode.calls k t585 2 t590 t591 _ A3.out).mono ?_); rintro e w32 ⟨v592, rfl, ho0, hb⟩; refine ⟨_, rfl, ?_⟩; have n0_ := Aside0.mk (Kd.R_elder' (by (with_reducible repeat (first | apply Kd.R_alloc | apply Kd.R_drewN | apply Kd.R_drew)); exact HO584.out) (Kd.R_base ho0) hb); have n1_ := Aside0.mk (Kd.R_elder' (by (with_reducible repeat (first | apply Kd.R_alloc | apply Kd.R_drewN | apply Kd.R_drew)); exact HO589.out) (Kd.R_base ho0) hb); have n2_ := Aside0.mk (Kd.R_lower (Kd.R_new' (Kd.R_new' ho0 (Kd.R_lt (by (with_reducible repeat (first | apply Kd.R_alloc | apply Kd.R_drewN | apply Kd.R_drew)); exact HO584.out))) (Kd.R_lt (by (with_reducible repeat (first | apply Kd.R_alloc | apply Kd.R_drewN | apply Kd.R_drew)); exact HO589.out))) (below_size (by repeat (first | (with_reducible first | exact HB.out | apply below_alloc | apply pw_below_drewN | apply below_drew1) | exact HB.out)))); have n3_ := Aside0.mk (below_step (by repeat (first | (with_reducible first | exact HB.out | apply below_alloc | apply pw_below_drewN | apply below_drew1) | exact HB.out)) hb); clear HO584; clear HO589; clear HB; have HO584 := n0_; have HO589 := n1_; have HO593 := n2_; have HB := n3_; clear n0_ n1_ n2_ n3_; (try clear hb); (try clear hb2); (try clear hk); (try clear hi); (try clear ho0)) | ((with_reducible refine gate_callee (f := 62) rfl ?_); refine goesL_ (some 31) rfl rfl Try.func62 (by kernel_rfl) rfl #[.string (⟨#[1, 0, 1]⟩ : ByteArray), .int .i64 2] rfl (by (try simp only [List.map_toArray, List.map_cons, List.map_nil]); first | done | rfl | (simp only [List.length_drop, List.length_take]; rfl)) ?_; (with_reducible refine (flags_Decode.calls k (⟨#[1, 0, 1]⟩ : ByteArray) 2 t594 t595 _ A4.out).mono ?_); rintro e w33 ⟨v596, rfl, ho0, hb⟩; refine ⟨_, rfl, ?_⟩; have n0_ := Aside0.mk (Kd.R_elder' (by (with_reducible repeat (first | apply Kd.R_alloc | apply Kd.R_drewN | apply Kd.R_drew)); exact HO584.out) (Kd.R_base ho0) hb); have n1_ := Aside0.mk (Kd.R_elder' (by (with_reducible repeat (first | apply Kd.R_alloc | apply Kd.R_drewN | apply Kd.R_drew)); exact HO589.out) (Kd.R_base ho0) hb); have n2_ := Aside0.mk (Kd.R_elder' (by (with_reducible repeat (first | apply Kd.R_alloc | apply Kd.R_drewN | apply Kd.R_drew)); exact HO593.out) (Kd.R_base ho0) hb); have n3_ := Aside0.mk (Kd.R_lower (Kd.R_new' (Kd.R_new' (Kd.R_new' ho0 (Kd.R_lt (by (with_reducible repeat (first | apply Kd.R_alloc | apply Kd.R_drewN | apply Kd.R_drew)); exact HO584.out))) (Kd.R_lt (by (with_reducible repeat (first | apply Kd.R_alloc | apply Kd.R_drewN | apply Kd.R_drew)); exact HO589.out))) (Kd.R_lt (by (with_reducible repeat (first | apply Kd.R_alloc | apply Kd.R_drewN | apply Kd.R_drew)); exact HO593.out))) (below_size (by repeat (first | (with_reducible first | exact HB.out | apply below_alloc | apply pw_below_drewN | apply below_drew1) | exact HB.out)))); have n4_ := Aside0.mk (below_step (by repeat (first | (with_reducible first | exact HB.out | apply below_alloc | apply pw_below_drewN | apply below_drew1) | exact HB.out)) hb); clear HO584; clear HO589; clear HO593; clear HB; have HO584 := n0_; have HO589 := n1_; have HO593 := n2_; have HO597 := n3_; have HB := n4_; clear n0_ n1_ n2_ n3_ n4_; (try clear hb); (try clear hb2); (try clear hk); (try clear hi); (try clear ho0)) | ((with_reducible refine gate_callee (f := 62) rfl ?_); refine goesL_ (some 35) rfl rfl Try.func62 (by kernel_rfl) rfl #[.string (⟨#[0]⟩ : ByteArray), .int .i64 0] rfl (by (try simp only [List.map_toArray, List.map_cons, List.map_nil]); first | done | rfl | (simp only [List.length_drop, List.length_take]; rfl)) ?_; (with_reducible refine (flags_Decode.calls k (⟨#[0]⟩ : ByteArray) 0 t598 t599 _ A5.out).mono ?_); rintro e w34 ⟨v600, rfl, ho0, hb⟩; refine ⟨_, rfl, ?_⟩; have n0_ := Aside0.mk (Kd.R_elder' (by (with_reducible repeat (first | apply Kd.R_alloc | apply Kd.R_drewN | apply Kd.R_drew)); exact HO584.out) (Kd.R_base ho0) hb); have n1_ := Aside0.mk (Kd.R_elder' (by (with_reducible repeat (first | apply Kd.R_alloc | apply Kd.R_drewN | apply Kd.R_drew)); exact HO589.out) (Kd.R_base ho0) hb); have n2_ := Aside0.mk (Kd.R_elder' (by (with_reducible repeat (first | apply Kd.R_alloc | apply Kd.R_drewN | apply Kd.R_drew)); exact HO593.out) (Kd.R_base ho0) hb); have n3_ := Aside0.mk (Kd.R_elder' (by (with_reducible repeat (first | apply Kd.R_alloc | apply Kd.R_drewN | apply Kd.R_drew)); exact HO597.out) (Kd.R_base ho0) hb); have n4_ := Aside0.mk (Kd.R_lower (Kd.R_new' (Kd.R_new' (Kd.R_new' (Kd.R_new' ho0 (Kd.R_lt (by (with_reducible repeat (first | apply Kd.R_alloc | apply Kd.R_drewN | apply Kd.R_drew)); exact HO584.out))) (Kd.R_lt (by (with_reducible repeat (first | apply Kd.R_alloc | apply Kd.R_drewN | apply Kd.R_drew)); exact HO589.out))) (Kd.R_lt (by (with_reducible repeat (first | apply Kd.R_alloc | apply Kd.R_drewN | apply Kd.R_drew)); exact HO593.out))) (Kd.R_lt (by (with_reducible repeat (first | apply Kd.R_alloc | apply Kd.R_drewN | apply Kd.R_drew)); exact HO597.out))) (below_size (by repeat (first | (with_reducible first | exact HB.out | apply below_alloc | apply pw_below_drewN | apply below_drew1) | exact HB.out)))); have n5_ := Aside0.mk (below_step (by repeat (first | (with_reducible first | exact HB.out | apply below_alloc | apply pw_below_drewN | apply below_drew1) | exact HB.out)) hb); clear HO584; clear HO589; clear HO593; clear HO597; clear HB; have HO584 := n0_; have HO589 := n1_; have HO593 := n2_; have HO597 := n3_; have HO601 := n4_; have HB := n5_; clear n0_ n1_ n2_ n3_ n4_ n5_; (try clear hb); (try clear hb2); (try clear hk); (try clear hi); (try clear ho0)) | ((with_reducible refine gate_dst (N := 39) rfl ?_); (try (refine gate_guard (by rfl) ?_; dsimp only)); refine Kd.R_lit (Kd.int .i64) _ 3 ?hg (N := 39) ?hd (xs := ([0, 2, 1] : List Int)) (inner := [.int .i64 0, .int .i64 2, .int .i64 1]) (ok := fun _ => True) (okp := fun _ => True) ?hr ?hp (fun _ hk => hk) trivial (Below.refl _ _) (Nat.le_refl _) (by simp) ?_; (case hd => rfl); (case hg => rfl); (case hr => first | (go_simp; done) | (go_simp; rfl)); (case hp => exact (Reps.one (show Kd.M (Kd.int .i64) _ _ _ 0 [.int .i64 0] from rfl) (Reps.one (show Kd.M (Kd.int .i64) _ _ _ 2 [.int .i64 2] from rfl) (Reps.one (show Kd.M (Kd.int .i64) _ _ _ 1 [.int .i64 1] from rfl) (Reps.none _ _))))); intro v603 w35 ho36 hb hg_ hnew_; clear hg_ hnew_; (first | rw [← Ny602.out] at ho36 | (simp only [Int.reduceToNat] at ho36; rw [← Ny602.out] at ho36)); have n0_ := Aside0.mk (Kd.R_below (by (with_reducible repeat (first | apply Kd.R_alloc | apply Kd.R_drewN | apply Kd.R_drew)); exact HO584.out) hb); have n1_ := Aside0.mk (Kd.R_below (by (with_reducible repeat (first | apply Kd.R_alloc | apply Kd.R_drewN | apply Kd.R_drew)); exact HO589.out) hb); have n2_ := Aside0.mk (Kd.R_below (by (with_reducible repeat (first | apply Kd.R_alloc | apply Kd.R_drewN | apply Kd.R_drew)); exact HO593.out) hb); have n3_ := Aside0.mk (Kd.R_below (by (with_reducible repeat (first | apply Kd.R_alloc | apply Kd.R_drewN | apply Kd.R_drew)); exact HO597.out) hb); have n4_ := Aside0.mk (Kd.R_below (by (with_reducible repeat (first | apply Kd.R_alloc | apply Kd.R_drewN | apply Kd.R_drew)); exact HO601.out) hb); have n5_ := Aside0.mk (Kd.R_lower ho36 (below_size (by repeat (first | (with_reducible first | exact HB.out | apply below_alloc | apply pw_below_drewN | apply below_drew1) | exact HB.out)))); have n6_ := Aside0.mk (below_step (by repeat (first | (with_reducible first | exact HB.out | apply below_alloc | apply pw_below_drewN | apply below_drew1) | exact HB.out)) hb); clear HO584; clear HO589; clear HO593; clear HO597; clear HO601; clear HB; have HO584 := n0_; have HO589 := n1_; have HO593 := n2_; have HO597 := n3_; have HO601 := n4_; have HO604 := n5_; have HB := n6_; clear n0_ n1_ n2_ n3_ n4_ n5_ n6_; clear hb ho36; obtain ⟨Ao37, co37, eo37⟩ := Kd.R_slice HO604.out; subst eo37) | ((with_reducible refine gate_callee (f := 52) rfl ?_); refine goesL_ (some 40) rfl rfl Try.func52 (by kernel_rfl) rfl #[.slice Ao37 y602.length co37, .int .i64 3] rfl (by (try simp only [List.map_toArray, List.map_cons, List.map_nil]); first | done | rfl | (simp only [List.length_drop, List.length_take]; rfl)) ?_; (with_reducible refine (flags_Spread.calls k _ _ y602 3 t605 true _ ?side1 ?side2 A6.out).mono ?_); (case side1 => repeat (first | exact (Kd.R_reads' HO604.out).2.2 | (with_reducible refine Kd.C_alloc ?_ _) | (with_reducible refine Kd.C_drewN ?_ _) | (with_reducible refine Kd.C_drew ?_))); (case side2 => exact (Kd.R_reads' HO604.out).2.1); rintro e w38 ⟨v607, rfl, ho0, hb⟩; refine ⟨_, rfl, ?_⟩; have n0_ := Aside0.mk (Kd.R_elder' (by (with_reducible repeat (first | apply Kd.R_alloc | apply Kd.R_drewN | apply Kd.R_drew)); exact HO584.out) (Kd.R_base ho0) hb); have n1_ := Aside0.mk (Kd.R_elder' (by (with_reducible repeat (first | apply Kd.R_alloc | apply Kd.R_drewN | apply Kd.R_drew)); exact HO589.out) (Kd.R_base ho0) hb); have n2_ := Aside0.mk (Kd.R_elder' (by (with_reducible repeat (first | apply Kd.R_alloc | apply Kd.R_drewN | apply Kd.R_drew)); exact HO593.out) (Kd.R_base ho0) hb); have n3_ := Aside0.mk (Kd.R_elder' (by (with_reducible repeat (first | apply Kd.R_alloc | apply Kd.R_drewN | apply Kd.R_drew)); exact HO597.out) (Kd.R_base ho0) hb); have n4_ := Aside0.mk (Kd.R_elder' (by (with_reducible repeat (first | apply Kd.R_alloc | apply Kd.R_drewN | apply Kd.R_drew)); exact HO601.out) (Kd.R_base ho0) hb); have n5_ := Aside0.mk (Kd.R_below (by (with_reducible repeat (first | apply Kd.R_alloc | apply Kd.R_drewN | apply Kd.R_drew)); exact HO604.out) hb); have n6_ := Aside0.mk (Kd.R_lower (Kd.R_new' (Kd.R_new' (Kd.R_new' (Kd.R_new' (Kd.R_new' ho0 (Kd.R_lt (by (with_reducible repeat (first | apply Kd.R_alloc | apply Kd.R_drewN | apply Kd.R_drew)); exact HO584.out))) (Kd.R_lt (by (with_reducible repeat (first | apply Kd.R_alloc | apply Kd.R_drewN | apply Kd.R_drew)); exact HO589.out))) (Kd.R_lt (by (with_reducible repeat (first | apply Kd.R_alloc | apply Kd.R_drewN | apply Kd.R_drew)); exact HO593.out))) (Kd.R_lt (by (with_reducible repeat (first | apply Kd.R_alloc | apply Kd.R_drewN | apply Kd.R_drew)); exact HO597.out))) (Kd.R_lt (by (with_reducible repeat (first | apply Kd.R_alloc | apply Kd.R_drewN | apply Kd.R_drew)); exact HO601.out))) (below_size (by repeat (first | (with_reducible first | exact HB.out | apply below_alloc | apply pw_below_drewN | apply below_drew1) | exact HB.out)))); have n7_ := Aside0.mk (below_step (by repeat (first | (with_reducible first | exact HB.out | apply below_alloc | apply pw_below_drewN | apply below_drew1) | exact HB.out)) hb); clear HO584; clear HO589; clear HO593; clear HO597; clear HO601; clear HO604; clear HB; have HO584 := n0_; have HO589 := n1_; have HO593 := n2_; have HO597 := n3_; have HO601 := n4_; have HO604 := n5_; have HO608 := n6_; have HB := n7_; clear n0_ n1_ n2_ n3_ n4_ n5_ n6_ n7_; (try clear hb); (try clear hb2); (try clear hk); (try clear hi); (try clear ho0)) | ((with_reducible refine gate_dst (N := 44) rfl ?_); (try (refine gate_guard (by rfl) ?_; dsimp only)); refine Kd.R_lit (Kd.int .i64) _ 3 ?hg (N := 44) ?hd (xs := ([0, 2, 1] : List Int)) (inner := [.int .i64 0, .int .i64 2, .int .i64 1]) (ok := fun _ => True) (okp := fun _ => True) ?hr ?hp (fun _ hk => hk) trivial (Below.refl _ _) (Nat.le_refl _) (by simp) ?_; (case hd => rfl); (case hg => rfl); (case hr => first | (go_simp; done) | (go_simp; rfl)); (case hp => exact (Reps.one (show Kd.M (Kd.int .i64) _ _ _ 0 [.int .i64 0] from rfl) (Reps.one (show Kd.M (Kd.int .i64) _ _ _ 2 [.int .i64 2] from rfl) (Reps.one (show Kd.M (Kd.int .i64) _ _ _ 1 [.int .i64 1] from rfl) (Reps.none _ _))))); intro v610 w39 ho40 hb hg_ hnew_; clear hg_ hnew_; (first | rw [← Ny609.out] at ho40 | (simp only [Int.reduceToNat] at ho40; rw [← Ny609.out] at ho40)); have n0_ := Aside0.mk (Kd.R_below (by (with_reducible repeat (first | apply Kd.R_alloc | apply Kd.R_drewN | apply Kd.R_drew)); exact HO584.out) hb); have n1_ := Aside0.mk (Kd.R_below (by (with_reducible repeat (first | apply Kd.R_alloc | apply Kd.R_drewN | apply Kd.R_drew)); exact HO589.out) hb); have n2_ := Aside0.mk (Kd.R_below (by (with_reducible repeat (first | apply Kd.R_alloc | apply Kd.R_drewN | apply Kd.R_drew)); exact HO593.out) hb); have n3_ := Aside0.mk (Kd.R_below (by (with_reducible repeat (first | apply Kd.R_alloc | apply Kd.R_drewN | apply Kd.R_drew)); exact HO597.out) hb); have n4_ := Aside0.mk (Kd.R_below (by (with_reducible repeat (first | apply Kd.R_alloc | apply Kd.R_drewN | apply Kd.R_drew)); exact HO601.out) hb); have n5_ := Aside0.mk (Kd.R_elder' (by (with_reducible repeat (first | apply Kd.R_alloc | apply Kd.R_drewN | apply Kd.R_drew)); exact HO604.out) (Kd.R_base ho40) hb); have n6_ := Aside0.mk (Kd.R_below (by (with_reducible repeat (first | apply Kd.R_alloc | apply Kd.R_drewN | apply Kd.R_drew)); exact HO608.out) hb); have n7_ := Aside0.mk (Kd.R_lower (Kd.R_new' ho40 (Kd.R_lt (by (with_reducible repeat (first | apply Kd.R_alloc | apply Kd.R_drewN | apply Kd.R_drew)); exact HO604.out))) (below_size (by repeat (first | (with_reducible first | exact HB.out | apply below_alloc | apply pw_below_drewN | apply below_drew1) | exact HB.out)))); have n8_ := Aside0.mk (below_step (by repeat (first | (with_reducible first | exact HB.out | apply below_alloc | apply pw_below_drewN | apply below_drew1) | exact HB.out)) hb); clear HO584; clear HO589; clear HO593; clear HO597; clear HO601; clear HO604; clear HO608; clear HB; have HO584 := n0_; have HO589 := n1_; have HO593 := n2_; have HO597 := n3_; have HO601 := n4_; have HO604 := n5_; have HO608 := n6_; have HO611 := n7_; have HB := n8_; clear n0_ n1_ n2_ n3_ n4_ n5_ n6_ n7_ n8_; clear hb ho40; obtain ⟨Ao41, co41, eo41⟩ := Kd.R_slice HO611.out; subst eo41) | ((with_reducible refine gate_callee (f := 52) rfl ?_); refine goesL_ (some 45) rfl rfl Try.func52 (by kernel_rfl) rfl #[.slice Ao41 y609.length co41, .int .i64 2] rfl (by (try simp only [List.map_toArray, List.map_cons, List.map_nil]); first | done | rfl | (simp only [List.length_drop, List.length_take]; rfl)) ?_; (with_reducible refine (flags_Spread.calls k _ _ y609 2 t612 false _ ?side1 ?side2 A7.out).mono ?_); (case side1 => repeat (first | exact (Kd.R_reads' HO611.out).2.2 | (with_reducible refine Kd.C_alloc ?_ _) | (with_reducible refine Kd.C_drewN ?_ _) | (with_reducible refine Kd.C_drew ?_))); (case side2 => exact (Kd.R_reads' HO611.out).2.1); rintro e w42 ⟨v614, rfl, ho0, hb⟩; refine ⟨_, rfl, ?_⟩; have n0_ := Aside0.mk (Kd.R_elder' (by (with_reducible repeat (first | apply Kd.R_alloc | apply Kd.R_drewN | apply Kd.R_drew)); exact HO584.out) (Kd.R_base ho0) hb); have n1_ := Aside0.mk (Kd.R_elder' (by (with_reducible repeat (first | apply Kd.R_alloc | apply Kd.R_drewN | apply Kd.R_drew)); exact HO589.out) (Kd.R_base ho0) hb); have n2_ := Aside0.mk (Kd.R_elder' (by (with_reducible repeat (first | apply Kd.R_alloc | apply Kd.R_drewN | apply Kd.R_drew)); exact HO593.out) (Kd.R_base ho0) hb); have n3_ := Aside0.mk (Kd.R_elder' (by (with_reducible repeat (first | apply Kd.R_alloc | apply Kd.R_drewN | apply Kd.R_drew)); exact HO597.out) (Kd.R_base ho0) hb); have n4_ := Aside0.mk (Kd.R_elder' (by (with_reducible repeat (first | apply Kd.R_alloc | apply Kd.R_drewN | apply Kd.R_drew)); exact HO601.out) (Kd.R_base ho0) hb); have n5_ := Aside0.mk (Kd.R_below (by (with_reducible repeat (first | apply Kd.R_alloc | apply Kd.R_drewN | apply Kd.R_drew)); exact HO604.out) hb); have n6_ := Aside0.mk (Kd.R_elder' (by (with_reducible repeat (first | apply Kd.R_alloc | apply Kd.R_drewN | apply Kd.R_drew)); exact HO608.out) (Kd.R_base ho0) hb); have n7_ := Aside0.mk (Kd.R_below (by (with_reducible repeat (first | apply Kd.R_alloc | apply Kd.R_drewN | apply Kd.R_drew)); exact HO611.out) hb); have n8_ := Aside0.mk (Kd.R_lower (Kd.R_new' (Kd.R_new' (Kd.R_new' (Kd.R_new' (Kd.R_new' (Kd.R_new' ho0 (Kd.R_lt (by (with_reducible repeat (first | apply Kd.R_alloc | apply Kd.R_drewN | apply Kd.R_drew)); exact HO584.out))) (Kd.R_lt (by (with_reducible repeat (first | apply Kd.R_alloc | apply Kd.R_drewN | apply Kd.R_drew)); exact HO589.out))) (Kd.R_lt (by (with_reducible repeat (first | apply Kd.R_alloc | apply Kd.R_drewN | apply Kd.R_drew)); exact HO593.out))) (Kd.R_lt (by (with_reducible repeat (first | apply Kd.R_alloc | apply Kd.R_drewN | apply Kd.R_drew)); exact HO597.out))) (Kd.R_lt (by (with_reducible repeat (first | apply Kd.R_alloc | apply Kd.R_drewN | apply Kd.R_drew)); exact HO601.out))) (Kd.R_lt (by (with_reducible repeat (first | apply Kd.R_alloc | apply Kd.R_drewN | apply Kd.R_drew)); exact HO608.out))) (below_size (by repeat (first | (with_reducible first | exact HB.out | apply below_alloc | apply pw_below_drewN | apply below_drew1) | exact HB.out)))); have n9_ := Aside0.mk (below_step (by repeat (first | (with_reducible first | exact HB.out | apply below_alloc | apply pw_below_drewN | apply below_drew1) | exact HB.out)) hb); clear HO584; clear HO589; clear HO593; clear HO597; clear HO601; clear HO604; clear HO608; clear HO611; clear HB; have HO584 := n0_; have HO589 := n1_; have HO593 := n2_; have HO597 := n3_; have HO601 := n4_; have HO604 := n5_; have HO608 := n6_; have HO611 := n7_; have HO615 := n8_; have HB := n9_; clear n0_ n1_ n2_ n3_ n4_ n5_ n6_ n7_ n8_ n9_; (try clear hb); (try clear hb2); (try clear hk); (try clear hi); (try clear ho0)) | ((with_reducible refine gate_dst (N := 49) rfl ?_); (try (refine gate_guard (by rfl) ?_; dsimp only)); refine Kd.R_lit (Kd.int .i64) _ 3 ?hg (N := 49) ?hd (xs := ([1, 0, 1] : List Int)) (inner := [.int .i64 1, .int .i64 0, .int .i64 1]) (ok := fun _ => True) (okp := fun _ => True) ?hr ?hp (fun _ hk => hk) trivial (Below.refl _ _) (Nat.le_refl _) (by simp) ?_; (case hd => rfl); (case hg => rfl); (case hr => first | (go_simp; done) | (go_simp; rfl)); (case hp => exact (Reps.one (show Kd.M (Kd.int .i64) _ _ _ 1 [.int .i64 1] from rfl) (Reps.one (show Kd.M (Kd.int .i64) _ _ _ 0 [.int .i64 0] from rfl) (Reps.one (show Kd.M (Kd.int .i64) _ _ _ 1 [.int .i64 1] from rfl) (Reps.none _ _))))); intro v617 w43 ho44 hb hg_ hnew_; clear hg_ hnew_; (first | rw [← Ny616.out] at ho44 | (simp only [Int.reduceToNat] at ho44; rw [← Ny616.out] at ho44)); have n0_ := Aside0.mk (Kd.R_below (by (with_reducible repeat (first | apply Kd.R_alloc | apply Kd.R_drewN | apply Kd.R_drew)); exact HO584.out) hb); have n1_ := Aside0.mk (Kd.R_below (by (with_reducible repeat (first | apply Kd.R_alloc | apply Kd.R_drewN | apply Kd.R_drew)); exact HO589.out) hb); have n2_ := Aside0.mk (Kd.R_below (by (with_reducible repeat (first | apply Kd.R_alloc | apply Kd.R_drewN | apply Kd.R_drew)); exact HO593.out) hb); have n3_ := Aside0.mk (Kd.R_below (by (with_reducible repeat (first | apply Kd.R_alloc | apply Kd.R_drewN | apply Kd.R_drew)); exact HO597.out) hb); have n4_ := Aside0.mk (Kd.R_below (by (with_reducible repeat (first | apply Kd.R_alloc | apply Kd.R_drewN | apply Kd.R_drew)); exact HO601.out) hb); have n5_ := Aside0.mk (Kd.R_elder' (by (with_reducible repeat (first | apply Kd.R_alloc | apply Kd.R_drewN | apply Kd.R_drew)); exact HO604.out) (Kd.R_base ho44) hb); have n6_ := Aside0.mk (Kd.R_below (by (with_reducible repeat (first | apply Kd.R_alloc | apply Kd.R_drewN | apply Kd.R_drew)); exact HO608.out) hb); have n7_ := Aside0.mk (Kd.R_elder' (by (with_reducible repeat (first | apply Kd.R_alloc | apply Kd.R_drewN | apply Kd.R_drew)); exact HO611.out) (Kd.R_base ho44) hb); have n8_ := Aside0.mk (Kd.R_below (by (with_reducible repeat (first | apply Kd.R_alloc | apply Kd.R_drewN | apply Kd.R_drew)); exact HO615.out) hb); have n9_ := Aside0.mk (Kd.R_lower (Kd.R_new' (Kd.R_new' ho44 (Kd.R_lt (by (with_reducible repeat (first | apply Kd.R_alloc | apply Kd.R_drewN | apply Kd.R_drew)); exact HO604.out))) (Kd.R_lt (by (with_reducible repeat (first | apply Kd.R_alloc | apply Kd.R_drewN | apply Kd.R_drew)); exact HO611.out))) (below_size (by repeat (first | (with_reducible first | exact HB.out | apply below_alloc | apply pw_below_drewN | apply below_drew1) | exact HB.out)))); have n10_ := Aside0.mk (below_step (by repeat (first | (with_reducible first | exact HB.out | apply below_alloc | apply pw_below_drewN | apply below_drew1) | exact HB.out)) hb); clear HO584; clear HO589; clear HO593; clear HO597; clear HO601; clear HO604; clear HO608; clear HO611; clear HO615; clear HB; have HO584 := n0_; have HO589 := n1_; have HO593 := n2_; have HO597 := n3_; have HO601 := n4_; have HO604 := n5_; have HO608 := n6_; have HO611 := n7_; have HO615 := n8_; have HO618 := n9_; have HB := n10_; clear n0_ n1_ n2_ n3_ n4_ n5_ n6_ n7_ n8_ n9_ n10_; clear hb ho44; obtain ⟨Ao45, co45, eo45⟩ := Kd.R_slice HO618.out; subst eo45) | ((with_reducible refine gate_callee (f := 52) rfl ?_); refine goesL_ (some 50) rfl rfl Try.func52 (by kernel_rfl) rfl #[.slice Ao45 y616.length co45, .int .i64 9] rfl (by (try simp only [List.map_toArray, List.map_cons, List.map_nil]); first | done | rfl | (simp only [List.length_drop, List.length_take]; rfl)) ?_; (with_reducible refine (flags_Spread.calls k _ _ y616 9 t619 false _ ?side1 ?side2 A8.out).mono ?_); (case side1 => repeat (first | exact (Kd.R_reads' HO618.out).2.2 | (with_reducible refine Kd.C_alloc ?_ _) | (with_reducible refine Kd.C_drewN ?_ _) | (with_reducible refine Kd.C_drew ?_))); (case side2 => exact (Kd.R_reads' HO618.out).2.1); rintro e w46 ⟨v621, rfl, ho0, hb⟩; refine ⟨_, rfl, ?_⟩; have n0_ := Aside0.mk (Kd.R_elder' (by (with_reducible repeat (first | apply Kd.R_alloc | apply Kd.R_drewN | apply Kd.R_drew)); exact HO584.out) (Kd.R_base ho0) hb); have n1_ := Aside0.mk (Kd.R_elder' (by (with_reducible repeat (first | apply Kd.R_alloc | apply Kd.R_drewN | apply Kd.R_drew)); exact HO589.out) (Kd.R_base ho0) hb); have n2_ := Aside0.mk (Kd.R_elder' (by (with_reducible repeat (first | apply Kd.R_alloc | apply Kd.R_drewN | apply Kd.R_drew)); exact HO593.out) (Kd.R_base ho0) hb); have n3_ := Aside0.mk (Kd.R_elder' (by (with_reducible repeat (first | apply Kd.R_alloc | apply Kd.R_drewN | apply Kd.R_drew)); exact HO597.out) (Kd.R_base ho0) hb); have n4_ := Aside0.mk (Kd.R_elder' (by (with_reducible repeat (first | apply Kd.R_alloc | apply Kd.R_drewN | apply Kd.R_drew)); exact HO601.out) (Kd.R_base ho0) hb); have n5_ := Aside0.mk (Kd.R_below (by (with_reducible repeat (first | apply Kd.R_alloc | apply Kd.R_drewN | apply Kd.R_drew)); exact HO604.out) hb); have n6_ := Aside0.mk (Kd.R_elder' (by (with_reducible repeat (first | apply Kd.R_alloc | apply Kd.R_drewN | apply Kd.R_drew)); exact HO608.out) (Kd.R_base ho0) hb); have n7_ := Aside0.mk (Kd.R_below (by (with_reducible repeat (first | apply Kd.R_alloc | apply Kd.R_drewN | apply Kd.R_drew)); exact HO611.out) hb); have n8_ := Aside0.mk (Kd.R_elder' (by (with_reducible repeat (first | apply Kd.R_alloc | apply Kd.R_drewN | apply Kd.R_drew)); exact HO615.out) (Kd.R_base ho0) hb); have n9_ := Aside0.mk (Kd.R_below (by (with_reducible repeat (first | apply Kd.R_alloc | apply Kd.R_drewN | apply Kd.R_drew)); exact HO618.out) hb); have n10_ := Aside0.mk (Kd.R_lower (Kd.R_new' (Kd.R_new' (Kd.R_new' (Kd.R_new' (Kd.R_new' (Kd.R_new' (Kd.R_new' ho0 (Kd.R_lt (by (with_reducible repeat (first | apply Kd.R_alloc | apply Kd.R_drewN | apply Kd.R_drew)); exact HO584.out))) (Kd.R_lt (by (with_reducible repeat (first | apply Kd.R_alloc | apply Kd.R_drewN | apply Kd.R_drew)); exact HO589.out))) (Kd.R_lt (by (with_reducible repeat (first | apply Kd.R_alloc | apply Kd.R_drewN | apply Kd.R_drew)); exact HO593.out))) (Kd.R_lt (by (with_reducible repeat (first | apply Kd.R_alloc | apply Kd.R_drewN | apply Kd.R_drew)); exact HO597.out))) (Kd.R_lt (by (with_reducible repeat (first | apply Kd.R_alloc | apply Kd.R_drewN | apply Kd.R_drew)); exact HO601.out))) (Kd.R_lt (by (with_reducible repeat (first | apply Kd.R_alloc | apply Kd.R_drewN | apply Kd.R_drew)); exact HO608.out))) (Kd.R_lt (by (with_reducible repeat (first | apply Kd.R_alloc | apply Kd.R_drewN | apply Kd.R_drew)); exact HO615.out))) (below_size (by repeat (first | (with_reducible first | exact HB.out | apply below_alloc | apply pw_below_drewN | apply below_drew1) | exact HB.out)))); have n11_ := Aside0.mk (below_step (by repeat (first | (with_reducible first | exact HB.out | apply below_alloc | apply pw_below_drewN | apply below_drew1) | exact HB.out)) hb); clear HO584; clear HO589; clear HO593; clear HO597; clear HO601; clear HO604; clear HO608; clear HO611; clear HO615; clear HO618; clear HB; have HO584 := n0_; have HO589 := n1_; have HO593 := n2_; have HO597 := n3_; have HO601 := n4_; have HO604 := n5_; have HO608 := n6_; have HO611 := n7_; have HO615 := n8_; have HO618 := n9_; have HO622 := n10_; have HB := n11_; clear n0_ n1_ n2_ n3_ n4_ n5_ n6_ n7_ n8_ n9_ n10_ n11_; (try clear hb); (try clear hb2); (try clear hk); (try clear hi); (try clear ho0); obtain ⟨Ao47, co47, eo47⟩ := Kd.R_slice HO589.out; subst eo47) | (go_at_call 61; (with_reducible refine (bonsairef07_Same.calls k _ _ t586 _ _ y582 true _ ?side1 ?side2 ?side3 ?side4 A10.out).mono ?_); (case side1 => repeat (first | exact (Kd.R_reads' HO589.out).2.2 | (with_reducible refine Kd.C_alloc ?_ _) | (with_reducible refine Kd.C_drewN ?_ _) | (with_reducible refine Kd.C_drew ?_))); (case side2 => exact (Kd.R_reads' HO589.out).2.1); (case side3 => repeat (first | exact (Kd.R_reads' HO584.out).2.2 | (with_reducible refine Kd.C_alloc ?_ _) | (with_reducible refine Kd.C_drewN ?_ _) | (with_reducible refine Kd.C_drew ?_))); (case side4 => exact (Kd.R_reads' HO584.out).2.1); rintro e w' ⟨rfl, ⟨nd, rfl⟩⟩; obtain ⟨Ao48, co48, eo48⟩ := Kd.R_slice HO608.out; subst eo48) | (go_at_call 61; (with_reducible refine (bonsairef07_Same.calls k _ _ t605 _ _ y582 true _ ?side1 ?side2 ?side3 ?side4 A16.out).mono ?_); (case side1 => repeat (first | exact (Kd.R_reads' HO608.out).2.2 | (with_reducible refine Kd.C_alloc ?_ _) | (with_reducible refine Kd.C_drewN ?_ _) | (with_reducible refine Kd.C_drew ?_))); (case side2 => exact (Kd.R_reads' HO608.out).2.1); (case side3 => repeat (first | exact (Kd.R_reads' HO584.out).2.2 | (with_reducible refine Kd.C_alloc ?_ _) | (with_reducible refine Kd.C_drewN ?_ _) | (with_reducible refine Kd.C_drew ?_))); (case side4 => exact (Kd.R_reads' HO584.out).2.1); rintro e w' ⟨rfl, ⟨nd, rfl⟩⟩) | (go_at_call 55; (with_reducible refine (flags_Lengths.calls k _ _ y582 t625 _ ?side1 ?side2 A21.out).mono ?_); (case side1 => repeat (first | exact (Kd.R_reads' HO584.out).2.2 | (with_reducible refine Kd.C_alloc ?_ _) | (with_reducible refine Kd.C_drewN ?_ _) | (with_reducible refine Kd.C_drew ?_))); (case side2 => exact (Kd.R_reads' HO584.out).2.1); rintro e w49 ⟨v626, rfl, ho0, hb⟩; have n0_ := Aside0.mk (Kd.R_below (by (with_reducible repeat (first | apply Kd.R_alloc | apply Kd.R_drewN | apply Kd.R_drew)); exact HO584.out) hb); have n1_ := Aside0.mk (Kd.R_below (by (with_reducible repeat (first | apply Kd.R_alloc | apply Kd.R_drewN | apply Kd.R_drew)); exact HO589.out) hb); have n2_ := Aside0.mk (Kd.R_below (by (with_reducible repeat (first | apply Kd.R_alloc | apply Kd.R_drewN | apply Kd.R_drew)); exact HO593.out) hb); have n3_ := Aside0.mk (Kd.R_below (by (with_reducible repeat (first | apply Kd.R_alloc | apply Kd.R_drewN | apply Kd.R_drew)); exact HO597.out) hb); have n4_ := Aside0.mk (Kd.R_below (by (with_reducible repeat (first | apply Kd.R_alloc | apply Kd.R_drewN | apply Kd.R_drew)); exact HO601.out) hb); have n5_ := Aside0.mk (Kd.R_elder' (by (with_reducible repeat (first | apply Kd.R_alloc | apply Kd.R_drewN | apply Kd.R_drew)); exact HO604.out) (Kd.R_base ho0) hb); have n6_ := Aside0.mk (Kd.R_below (by (with_reducible repeat (first | apply Kd.R_alloc | apply Kd.R_drewN | apply Kd.R_drew)); exact HO608.out) hb); have n7_ := Aside0.mk (Kd.R_elder' (by (with_reducible repeat (first | apply Kd.R_alloc | apply Kd.R_drewN | apply Kd.R_drew)); exact HO611.out) (Kd.R_base ho0) hb); have n8_ := Aside0.mk (Kd.R_below (by (with_reducible repeat (first | apply Kd.R_alloc | apply Kd.R_drewN | apply Kd.R_drew)); exact HO615.out) hb); have n9_ := Aside0.mk (Kd.R_elder' (by (with_reducible repeat (first | apply Kd.R_alloc | apply Kd.R_drewN | apply Kd.R_drew)); exact HO618.out) (Kd.R_base ho0) hb); have n10_ := Aside0.mk (Kd.R_below (by (with_reducible repeat (first | apply Kd.R_alloc | apply Kd.R_drewN | apply Kd.R_drew)); exact HO622.out) hb); have n11_ := Aside0.mk (Kd.R_lower (Kd.R_new' (Kd.R_new' (Kd.R_new' ho0 (Kd.R_lt (by (with_reducible repeat (first | apply Kd.R_alloc | apply Kd.R_drewN | apply Kd.R_drew)); exact HO604.out))) (Kd.R_lt (by (with_reducible repeat (first | apply Kd.R_alloc | apply Kd.R_drewN | apply Kd.R_drew)); exact HO611.out))) (Kd.R_lt (by (with_reducible repeat (first | apply Kd.R_alloc | apply Kd.R_drewN | apply Kd.R_drew)); exact HO618.out))) (below_size (by repeat (first | (with_reducible first | exact HB.out | apply below_alloc | apply pw_below_drewN | apply below_drew1) | exact HB.out)))); have n12_ := Aside0.mk (below_step (by repeat (first | (with_reducible first | exact HB.out | apply below_alloc | apply pw_below_drewN | apply below_drew1) | exact HB.out)) hb); clear HO584; clear HO589; clear HO593; clear HO597; clear HO601; clear HO604; clear HO608; clear HO611; clear HO615; clear HO618; clear HO622; clear HB; have HO584 := n0_; have HO589 := n1_; have HO593 := n2_; have HO597 := n3_; have HO601 := n4_; have HO604 := n5_; have HO608 := n6_; have HO611 := n7_; have HO615 := n8_; have HO618 := n9_; have HO622 := n10_; have HO627 := n11_; have HB := n12_; clear n0_ n1_ n2_ n3_ n4_ n5_ n6_ n7_ n8_ n9_ n10_ n11_ n12_; (try clear hb); (try clear hb2); (try clear hk); (try clear hi); (try clear ho0)) | ((with_reducible refine gate_dst (N := 95) rfl ?_); (try (refine gate_guard (by rfl) ?_; dsimp only)); refine Kd.R_lit (Kd.int .i64) _ 3 ?hg (N := 95) ?hd (xs := ([0, 2, 1] : List Int)) (inner := [.int .i64 0, .int .i64 2, .int .i64 1]) (ok := fun _ => True) (okp := fun _ => True) ?hr ?hp (fun _ hk => hk) trivial (Below.refl _ _) (Nat.le_refl _) (by simp) ?_; (case hd => rfl); (case hg => rfl); (case hr => first | (go_simp; done) | (go_simp; rfl)); (case hp => exact (Reps.one (show Kd.M (Kd.int .i64) _ _ _ 0 [.int .i64 0] from rfl) (Reps.one (show Kd.M (Kd.int .i64) _ _ _ 2 [.int .i64 2] from rfl) (Reps.one (show Kd.M (Kd.int .i64) _ _ _ 1 [.int .i64 1] from rfl) (Reps.none _ _))))); intro v629 w50 ho51 hb hg_ hnew_; clear hg_ hnew_; (first | rw [← Ny628.out] at ho51 | (simp only [Int.reduceToNat] at ho51; rw [← Ny628.out] at ho51)); have n0_ := Aside0.mk (Kd.R_below (by (with_reducible repeat (first | apply Kd.R_alloc | apply Kd.R_drewN | apply Kd.R_drew)); exact HO584.out) hb); have n1_ := Aside0.mk (Kd.R_below (by (with_reducible repeat (first | apply Kd.R_alloc | apply Kd.R_drewN | apply Kd.R_drew)); exact HO589.out) hb); have n2_ := Aside0.mk (Kd.R_below (by (with_reducible repeat (first | apply Kd.R_alloc | apply Kd.R_drewN | apply Kd.R_drew)); exact HO593.out) hb); have n3_ := Aside0.mk (Kd.R_below (by (with_reducible repeat (first | apply Kd.R_alloc | apply Kd.R_drewN | apply Kd.R_drew)); exact HO597.out) hb); have n4_ := Aside0.mk (Kd.R_below (by (with_reducible repeat (first | apply Kd.R_alloc | apply Kd.R_drewN | apply Kd.R_drew)); exact HO601.out) hb); have n5_ := Aside0.mk (Kd.R_elder' (by (with_reducible repeat (first | apply Kd.R_alloc | apply Kd.R_drewN | apply Kd.R_drew)); exact HO604.out) (Kd.R_base ho51) hb); have n6_ := Aside0.mk (Kd.R_below (by (with_reducible repeat (first | apply Kd.R_alloc | apply Kd.R_drewN | apply Kd.R_drew)); exact HO608.out) hb); have n7_ := Aside0.mk (Kd.R_elder' (by (with_reducible repeat (first | apply Kd.R_alloc | apply Kd.R_drewN | apply Kd.R_drew)); exact HO611.out) (Kd.R_base ho51) hb); have n8_ := Aside0.mk (Kd.R_below (by (with_reducible repeat (first | apply Kd.R_alloc | apply Kd.R_drewN | apply Kd.R_drew)); exact HO615.out) hb); have n9_ := Aside0.mk (Kd.R_elder' (by (with_reducible repeat (first | apply Kd.R_alloc | apply Kd.R_drewN | apply Kd.R_drew)); exact HO618.out) (Kd.R_base ho51) hb); have n10_ := Aside0.mk (Kd.R_below (by (with_reducible repeat (first | apply Kd.R_alloc | apply Kd.R_drewN | apply Kd.R_drew)); exact HO622.out) hb); have n11_ := Aside0.mk (Kd.R_elder' (by (with_reducible repeat (first | apply Kd.R_alloc | apply Kd.R_drewN | apply Kd.R_drew)); exact HO627.out) (Kd.R_base ho51) hb); have n12_ := Aside0.mk (Kd.R_lower (Kd.R_new' (Kd.R_new' (Kd.R_new' (Kd.R_new' ho51 (Kd.R_lt (by (with_reducible repeat (first | apply Kd.R_alloc | apply Kd.R_drewN | apply Kd.R_drew)); exact HO604.out))) (Kd.R_lt (by (with_reducible repeat (first | apply Kd.R_alloc | apply Kd.R_drewN | apply Kd.R_drew)); exact HO611.out))) (Kd.R_lt (by (with_reducible repeat (first | apply Kd.R_alloc | apply Kd.R_drewN | apply Kd.R_drew)); exact HO618.out))) (Kd.R_lt (by (with_reducible repeat (first | apply Kd.R_alloc | apply Kd.R_drewN | apply Kd.R_drew)); exact HO627.out))) (below_size (by repeat (first | (with_reducible first | exact HB.out | apply below_alloc | apply pw_below_drewN | apply below_drew1) | exact HB.out)))); have n13_ := Aside0.mk (below_step (by repeat (first | (with_reducible first | exact HB.out | apply below_alloc | apply pw_below_drewN | apply below_drew1) | exact HB.out)) hb); clear HO584; clear HO589; clear HO593; clear HO597; clear HO601; clear HO604; clear HO608; clear HO611; clear HO615; clear HO618; clear HO622; clear HO627; clear HB; have HO584 := n0_; have HO589 := n1_; have HO593 := n2_; have HO597 := n3_; have HO601 := n4_; have HO604 := n5_; have HO608 := n6_; have HO611 := n7_; have HO615 := n8_; have HO618 := n9_; have HO622 := n10_; have HO627 := n11_; have HO630 := n12_; have HB := n13_; clear n0_ n1_ n2_ n3_ n4_ n5_ n6_ n7_ n8_ n9_ n10_ n11_ n12_ n13_; clear hb ho51; obtain ⟨Ao52, co52, eo52⟩ := Kd.R_slice HO627.out; subst eo52; obtain ⟨Ao53, co53, eo53⟩ := Kd.R_slice HO630.out; subst eo53) | (go_at_call 54; (with_reducible refine (bonsairef05_Same.calls k _ _ t625 _ _ y628 true _ ?side1 ?side2 ?side3 ?side4 A22.out).mono ?_); (case side1 => repeat (first | exact (Kd.R_reads' HO627.out).2.2 | (with_reducible refine Kd.C_alloc ?_ _) | (with_reducible refine Kd.C_drewN ?_ _) | (with_reducible refine Kd.C_drew ?_))); (case side2 => exact (Kd.R_reads' HO627.out).2.1); (case side3 => repeat (first | exact (Kd.R_reads' HO630.out).2.2 | (with_reducible refine Kd.C_alloc ?_ _) | (with_reducible refine Kd.C_drewN ?_ _) | (with_reducible refine Kd.C_drew ?_))); (case side4 => exact (Kd.R_reads' HO630.out).2.1); rintro e w' ⟨rfl, ⟨nd, rfl⟩⟩) | (go_at_call 55; (refine (flags_Lengths.calls k _ _ ([] : List Bool) t632 _ ?side1 ?side2 A24.out).mono ?_); (case side1 => exact Kd.C_nil _ _); (case side2 => exact Nat.le_refl _); rintro e w54 ⟨v633, rfl, ho0, hb⟩; have n0_ := Aside0.mk (Kd.R_below (by (with_reducible repeat (first | apply Kd.R_alloc | apply Kd.R_drewN | apply Kd.R_drew)); exact HO584.out) hb); have n1_ := Aside0.mk (Kd.R_below (by (with_reducible repeat (first | apply Kd.R_alloc | apply Kd.R_drewN | apply Kd.R_drew)); exact HO589.out) hb); have n2_ := Aside0.mk (Kd.R_below (by (with_reducible repeat (first | apply Kd.R_alloc | apply Kd.R_drewN | apply Kd.R_drew)); exact HO593.out) hb); have n3_ := Aside0.mk (Kd.R_below (by (with_reducible repeat (first | apply Kd.R_alloc | apply Kd.R_drewN | apply Kd.R_drew)); exact HO597.out) hb); have n4_ := Aside0.mk (Kd.R_below (by (with_reducible repeat (first | apply Kd.R_alloc | apply Kd.R_drewN | apply Kd.R_drew)); exact HO601.out) hb); have n5_ := Aside0.mk (Kd.R_elder' (by (with_reducible repeat (first | apply Kd.R_alloc | apply Kd.R_drewN | apply Kd.R_drew)); exact HO604.out) (Kd.R_base ho0) hb); have n6_ := Aside0.mk (Kd.R_below (by (with_reducible repeat (first | apply Kd.R_alloc | apply Kd.R_drewN | apply Kd.R_drew)); exact HO608.out) hb); have n7_ := Aside0.mk (Kd.R_elder' (by (with_reducible repeat (first | apply Kd.R_alloc | apply Kd.R_drewN | apply Kd.R_drew)); exact HO611.out) (Kd.R_base ho0) hb); have n8_ := Aside0.mk (Kd.R_below (by (with_reducible repeat (first | apply Kd.R_alloc | apply Kd.R_drewN | apply Kd.R_drew)); exact HO615.out) hb); have n9_ := Aside0.mk (Kd.R_elder' (by (with_reducible repeat (first | apply Kd.R_alloc | apply Kd.R_drewN | apply Kd.R_drew)); exact HO618.out) (Kd.R_base ho0) hb); have n10_ := Aside0.mk (Kd.R_below (by (with_reducible repeat (first | apply Kd.R_alloc | apply Kd.R_drewN | apply Kd.R_drew)); exact HO622.out) hb); have n11_ := Aside0.mk (Kd.R_elder' (by (with_reducible repeat (first | apply Kd.R_alloc | apply Kd.R_drewN | apply Kd.R_drew)); exact HO627.out) (Kd.R_base ho0) hb); have n12_ := Aside0.mk (Kd.R_elder' (by (with_reducible repeat (first | apply Kd.R_alloc | apply Kd.R_drewN | apply Kd.R_drew)); exact HO630.out) (Kd.R_base ho0) hb); have n13_ := Aside0.mk (Kd.R_lower (Kd.R_new' (Kd.R_new' (Kd.R_new' (Kd.R_new' (Kd.R_new' ho0 (Kd.R_lt (by (with_reducible repeat (first | apply Kd.R_alloc | apply Kd.R_drewN | apply Kd.R_drew)); exact HO604.out))) (Kd.R_lt (by (with_reducible repeat (first | apply Kd.R_alloc | apply Kd.R_drewN | apply Kd.R_drew)); exact HO611.out))) (Kd.R_lt (by (with_reducible repeat (first | apply Kd.R_alloc | apply Kd.R_drewN | apply Kd.R_drew)); exact HO618.out))) (Kd.R_lt (by (with_reducible repeat (first | apply Kd.R_alloc | apply Kd.R_drewN | apply Kd.R_drew)); exact HO627.out))) (Kd.R_lt (by (with_reducible repeat (first | apply Kd.R_alloc | apply Kd.R_drewN | apply Kd.R_drew)); exact HO630.out))) (below_size (by repeat (first | (with_reducible first | exact HB.out | apply below_alloc | apply pw_below_drewN | apply below_drew1) | exact HB.out)))); have n14_ := Aside0.mk (below_step (by repeat (first | (with_reducible first | exact HB.out | apply below_alloc | apply pw_below_drewN | apply below_drew1) | exact HB.out)) hb); clear HO584; clear HO589; clear HO593; clear HO597; clear HO601; clear HO604; clear HO608; clear HO611; clear HO615; clear HO618; clear HO622; clear HO627; clear HO630; clear HB; have HO584 := n0_; have HO589 := n1_; have HO593 := n2_; have HO597 := n3_; have HO601 := n4_; have HO604 := n5_; have HO608 := n6_; have HO611 := n7_; have HO615 := n8_; have HO618 := n9_; have HO622 := n10_; have HO627 := n11_; have HO630 := n12_; have HO634 := n13_; have HB := n14_; clear n0_ n1_ n2_ n3_ n4_ n5_ n6_ n7_ n8_ n9_ n10_ n11_ n12_ n13_ n14_; (try clear hb); (try clear hb2); (try clear hk); (try clear hi); (try clear ho0); obtain ⟨Ao55, co55, eo55⟩ := Kd.R_slice HO634.out; subst eo55) | (go_at_call 59; (with_reducible refine (flags_Count.calls k _ _ y582 t635 _ ?side1 ?side2 A26.out).mono ?_); (case side1 => repeat (first | exact (Kd.R_reads' HO584.out).2.2 | (with_reducible refine Kd.C_alloc ?_ _) | (with_reducible refine Kd.C_drewN ?_ _) | (with_reducible refine Kd.C_drew ?_))); (case side2 => exact (Kd.R_reads' HO584.out).2.1); rintro e w' ⟨rfl, ⟨nd, rfl⟩⟩))
                          go_ret
                          exact ⟨by first | rfl | (simp [errW_none, errW_some] <;> rfl) | (simp [*, errW_none, errW_some] <;> rfl), by repeat (first | (with_reducible first | exact HB.out | apply below_alloc | apply pw_below_drewN | apply below_drew1) | exact HB.out)⟩
                        · rw [if_neg c25] at H
                          exact absurd H (by simp)
                      · replace c23 := Bool.eq_false_iff.mpr c23
                        subst c23
                        have H1 : (none) = some r := by rw [if_neg (show ¬ (false = true) by decide)] at H; exact H
                        clear H
                        have H := H1
                        clear H1
                        exact absurd H (by simp)
                · replace c18 := Bool.eq_false_iff.mpr c18
                  subst c18
                  have H1 : (none) = some r := by rw [if_neg (show ¬ (false = true) by decide)] at H; exact H
                  clear H
                  have H := H1
                  clear H1
                  exact absurd H (by simp)
              · replace c17 := Bool.eq_false_iff.mpr c17
                subst c17
                have H1 : (none) = some r := by rw [if_neg (show ¬ (false = true) by decide)] at H; exact H
                clear H
                have H := H1
                clear H1
                exact absurd H (by simp)
            · rw [if_neg c15] at H
              exact absurd H (by simp)
          · rw [if_neg c14] at H
            exact absurd H (by simp)
        · rw [if_neg c13] at H
          exact absurd H (by simp)
      · rw [if_neg c12] at H
        exact absurd H (by simp)
    · replace c11 := Bool.eq_false_iff.mpr c11
      subst c11
      have H1 : (none) = some r := by rw [if_neg (show ¬ (false = true) by decide)] at H; exact H
      clear H
      have H := H1
      clear H1
      exact absurd H (by simp)
  · rw [if_neg c9] at H
    exact absurd H (by simp)
end Go.Proofs.Ytbgjoiccehiglaa.Print
end
section
namespace Go.Proofs.Ytbgjoiccehiglaa.Print
open Go.RowKit Go.Proofs.YtbgjoiccehiglaaW.PrintWords Go.Proofs.YtbgjoiccehiglaaW.PrintLast Go.Proofs.YtbgjoiccehiglaaW.PrintMore
attribute [local go_sem] max2_int min2_int max_two min_two max_three min_three max_four min_four
set_option linter.unusedVariables false
set_option linter.unusedSimpArgs false
def bonsairef07_Decode.l0 : Nat → Int → List Int → Int → ByteArray → Int → Int → Option (List Bool × Int)
  | 0, _, _, _, _, _, _ => none
  | k + 1, x1, x7, x8, x681000, x681001, x681002 => (bonsairef03_Reader_Left.f x681000 x681001 x681002).bind fun bt681 => (if bt681.1 > 0 then ((bonsairef03_Reader_Num.f k bt681.2.1 bt681.2.2.1 bt681.2.2.2).bind fun bt689 => (if bt689.2.2.2 = 0 then (if bt689.1 > (IntKind.u64.wrap (x8)) then (some (([] : List Bool), 5)) else (if bt689.1 = 0 then (if (x7.length : Int) > 0 then (some (([] : List Bool), 5)) else (if x7.length < 17592186044416 then (bonsairef07_Decode.l0 k x1 (x7 ++ [wrap64 (bt689.1)]) (wrap64 (x8 - (wrap64 (bt689.1)))) bt689.2.1 bt689.2.2.1 bt689.2.2.2) else (none))) else (if x7.length < 17592186044416 then (bonsairef07_Decode.l0 k x1 (x7 ++ [wrap64 (bt689.1)]) (wrap64 (x8 - (wrap64 (bt689.1)))) bt689.2.1 bt689.2.2.1 bt689.2.2.2) else (none)))) else (some (([] : List Bool), bt689.2.2.2)))) else ((bonsairef07_Spread.f k x7 x1).bind fun bt685 => (if bt685.2 = true then (if x8 > 0 then (some (([] : List Bool), 5)) else (some (bt685.1, 0))) else (some (([] : List Bool), 5)))))
def bonsairef07_Decode.f (k : Nat) (a0 : ByteArray) (a1 : Int) : Option (List Bool × Int) := if a1 < 0 then (some (([] : List Bool), 1)) else (if a1 > 4096 then (some (([] : List Bool), 10)) else (bonsairef07_Decode.l0 k a1 ([] : List Int) a1 a0 0 0))
end Go.Proofs.Ytbgjoiccehiglaa.Print
end
section
namespace Go.Proofs.Ytbgjoiccehiglaa.LibU
open Go.RowKit Go.Proofs.Ytbgjoiccehiglaa.Print Go.Proofs.YtbgjoiccehiglaaW.PrintWords Go.Proofs.YtbgjoiccehiglaaW.PrintLast Go.Proofs.YtbgjoiccehiglaaW.PrintMore
def addR (acc : List S53) (x : Int) : List S53 :=
  match acc.getLast? with
  | some r => if r.f0 = x then acc.dropLast ++ [(⟨r.f0, r.f1 + 1⟩ : S53)] else acc ++ [(⟨x, 1⟩ : S53)]
  | none => [(⟨x, 1⟩ : S53)]
theorem addR_snoc (a : List S53) (r : S53) (x : Int) : addR (a ++ [r]) x = if r.f0 = x then a ++ [(⟨r.f0, r.f1 + 1⟩ : S53)] else a ++ [r] ++ [(⟨x, 1⟩ : S53)] := by
  unfold addR
  simp
def runs (l : List Int) : List S53 := l.foldl addR []
def spread (rs : List S53) : List Int := rs.flatMap fun r => List.replicate r.f1.toNat r.f0
theorem spread_snoc (a : List S53) (r : S53) : spread (a ++ [r]) = spread a ++ List.replicate r.f1.toNat r.f0 := by simp [spread]
inductive MayR : List S53 → Prop
  | nil : MayR []
  | one (r : S53) (h : 1 ≤ r.f1) : MayR [r]
  | snoc (a : List S53) (q r : S53) (h : MayR (a ++ [q])) (h1 : 1 ≤ r.f1) (hne : q.f0 ≠ r.f0) : MayR (a ++ [q] ++ [r])
theorem snoc_cases {α : Type} (l : List α) : l = [] ∨ ∃ a x, l = a ++ [x] := by
  rcases List.eq_nil_or_concat l with h | ⟨a, x, h⟩
  · exact .inl h
  · exact .inr ⟨a, x, by simpa using h⟩
theorem snoc_inj {α : Type} {a b : List α} {x y : α} (h : a ++ [x] = b ++ [y]) : a = b ∧ x = y := by
  have := List.append_inj' h rfl
  simpa using this
theorem MayR.last {a : List S53} {r : S53} (h : MayR (a ++ [r])) : 1 ≤ r.f1 := by
  generalize hl : a ++ [r] = l at h
  cases h with
  | nil => simp at hl
  | one q hq => obtain ⟨_, rfl⟩ := snoc_inj (b := []) hl; exact hq
  | snoc b q s h h1 hne => obtain ⟨_, rfl⟩ := snoc_inj hl; exact h1
theorem MayR.init {a : List S53} {r : S53} (h : MayR (a ++ [r])) : MayR a := by
  generalize hl : a ++ [r] = l at h
  cases h with
  | nil => simp at hl
  | one q hq => obtain ⟨rfl, _⟩ := snoc_inj (b := []) hl; exact .nil
  | snoc b q s h h1 hne => obtain ⟨rfl, _⟩ := snoc_inj hl; exact h
theorem MayR.ne {a : List S53} {q r : S53} (h : MayR (a ++ [q] ++ [r])) : q.f0 ≠ r.f0 := by
  generalize hl : a ++ [q] ++ [r] = l at h
  cases h with
  | nil => simp at hl
  | one s hs => have := congrArg List.length hl; simp at this
  | snoc b q' s h h1 hne =>
    obtain ⟨e1, rfl⟩ := snoc_inj hl
    obtain ⟨_, rfl⟩ := snoc_inj e1
    exact hne
theorem MayR.grow {a : List S53} {r : S53} (h : MayR (a ++ [r])) (n : Int) (hn : 1 ≤ n) : MayR (a ++ [(⟨r.f0, n⟩ : S53)]) := by
  rcases snoc_cases a with rfl | ⟨b, q, rfl⟩
  · exact .one _ hn
  · exact .snoc _ _ _ h.init hn h.ne
theorem MayR.add {acc : List S53} (h : MayR acc) (x : Int) : MayR (addR acc x) := by
  rcases snoc_cases acc with rfl | ⟨a, r, rfl⟩
  · exact .one _ (Int.le_refl 1)
  · rw [addR_snoc]
    split
    · exact h.grow _ (by have := h.last; omega)
    · exact .snoc _ _ _ h (Int.le_refl 1) (by assumption)
theorem may_foldl (l : List Int) : ∀ acc, MayR acc → MayR (l.foldl addR acc) := by
  induction l with
  | nil => intro acc h; exact h
  | cons x xs ih => intro acc h; exact ih _ (h.add x)
theorem may_runs (l : List Int) : MayR (runs l) := may_foldl l [] .nil
theorem spread_add {acc : List S53} (h : MayR acc) (x : Int) : spread (addR acc x) = spread acc ++ [x] := by
  rcases snoc_cases acc with rfl | ⟨a, r, rfl⟩
  · rfl
  · rw [addR_snoc]
    split
    · rename_i he
      have := h.last
      rw [spread_snoc, spread_snoc, show (r.f1 + 1).toNat = r.f1.toNat + 1 by omega, List.replicate_succ', ← List.append_assoc, he]
    · rw [spread_snoc]; rfl
theorem spread_foldl (l : List Int) : ∀ acc, MayR acc → spread (l.foldl addR acc) = spread acc ++ l := by
  induction l with
  | nil => intro acc h; simp
  | cons x xs ih => intro acc h; rw [List.foldl_cons, ih _ (h.add x), spread_add h, List.append_assoc]; rfl
theorem spread_runs (l : List Int) : spread (runs l) = l := by unfold runs; rw [spread_foldl l [] .nil]; rfl
theorem runs_rep (a : List S53) (x : Int) (h : a = [] ∨ ∃ b q, a = b ++ [q] ∧ q.f0 ≠ x) : ∀ n : Nat, (List.replicate (n + 1) x).foldl addR a = a ++ [(⟨x, (n : Int) + 1⟩ : S53)]
  | 0 => by
    rcases h with rfl | ⟨b, q, rfl, hq⟩
    · rfl
    · show addR (b ++ [q]) x = _
      rw [addR_snoc, if_neg hq]; rfl
  | n + 1 => by
    rw [List.replicate_succ', List.foldl_append, runs_rep a x h n]
    show addR _ x = _
    rw [addR_snoc, if_pos rfl]
    simp
theorem runs_spread {rs : List S53} (h : MayR rs) : runs (spread rs) = rs := by
  induction h with
  | nil => rfl
  | one r h =>
    have := runs_rep [] r.f0 (.inl rfl) (r.f1.toNat - 1)
    rw [show r.f1.toNat - 1 + 1 = r.f1.toNat by omega, show (((r.f1.toNat - 1 : Nat) : Int) + 1) = r.f1 by omega] at this
    simpa [runs, spread] using this
  | snoc a q r h h1 hne ih =>
    have := runs_rep (a ++ [q]) r.f0 (.inr ⟨a, q, rfl, hne⟩) (r.f1.toNat - 1)
    rw [show r.f1.toNat - 1 + 1 = r.f1.toNat by omega, show (((r.f1.toNat - 1 : Nat) : Int) + 1) = r.f1 by omega] at this
    rw [spread_snoc]
    unfold runs at ih ⊢
    rw [List.foldl_append, ih, this]
theorem len_spread {rs : List S53} (h : MayR rs) : rs.length ≤ (spread rs).length := by
  induction h with
  | nil => simp
  | one r h => simp [spread]; omega
  | snoc a q r h h1 hne ih => rw [spread_snoc, List.length_append, List.length_append (bs := List.replicate _ _), List.length_replicate]; simp only [List.length_cons, List.length_nil]; omega
end Go.Proofs.Ytbgjoiccehiglaa.LibU
end
section
namespace Go.Proofs.Ytbgjoiccehiglaa.Print
open Go.RowKit Go.Proofs.YtbgjoiccehiglaaW.PrintWords Go.Proofs.YtbgjoiccehiglaaW.PrintLast Go.Proofs.YtbgjoiccehiglaaW.PrintMore
attribute [local go_sem] max2_int min2_int max_two min_two max_three min_three max_four min_four
set_option linter.unusedVariables false
set_option linter.unusedSimpArgs false
theorem eqA53 (d : Nat) (w : World) (x0 y0 : Int) (x1 y1 : Int) :
    (Op.equalIn (d + 2) 53 (.agg #[.int .u64 x0, .int .i64 x1]) (.agg #[.int .u64 y0, .int .i64 y1])).run Try.prog w = .ok (x0 == y0 && (x1 == y1)) w := by
  refine eqA_of Try.underlying53 (by kernel_rfl) ?_
  refine eqf_cons (by rfl) (by go_simp; rfl) (by go_simp; rfl) (by go_simp) ?_
  exact eqf_last (by rfl) (by go_simp; rfl) (by go_simp; rfl) (by go_simp)
end Go.Proofs.Ytbgjoiccehiglaa.Print
end
section
namespace Go.Proofs.Ytbgjoiccehiglaa.Print
open Go.RowKit Go.Proofs.YtbgjoiccehiglaaW.PrintWords Go.Proofs.YtbgjoiccehiglaaW.PrintLast Go.Proofs.YtbgjoiccehiglaaW.PrintMore
attribute [local go_sem] max2_int min2_int max_two min_two max_three min_three max_four min_four
set_option linter.unusedVariables false
set_option linter.unusedSimpArgs false
def runs_May.l0 : Nat → List (S53) → List (S53) → Int → Int → Option (Bool)
  | 0, _, _, _, _ => none
  | k + 1, x0, x5, x6, x7 => if x7 < x6 then (if 0 ≤ x7 then (if x7 < (x5.length : Int) then (if ((rd_T53 x5 x7).f1) < 1 then (some false) else (if x7 > 0 then (if 0 ≤ (wrap64 (x7 - 1)) then (if (wrap64 (x7 - 1)) < (x0.length : Int) then (if ((rd_T53 x0 (wrap64 (x7 - 1))).f0) = ((rd_T53 x5 x7).f0) then (some false) else (runs_May.l0 k x0 x5 x6 (wrap64 (x7 + 1)))) else (none)) else (none)) else (runs_May.l0 k x0 x5 x6 (wrap64 (x7 + 1))))) else (none)) else (none)) else (some true)
def runs_May.f (k : Nat) (l0 : List (S53)) : Option (Bool) := runs_May.l0 k l0 l0 (l0.length : Int) 0
def slices_Repeat_uint64_uint64.f (l0 : List Int) (a1 : Int) : Option (List Int) := if l0.length = 1 then (if 0 ≤ a1 ∧ a1 ≤ 1000000 then some (List.replicate a1.toNat (rd l0 0)) else none) else none
end Go.Proofs.Ytbgjoiccehiglaa.Print
end
section
namespace Go.Proofs.Ytbgjoiccehiglaa.Print
open Go.RowKit Go.Proofs.YtbgjoiccehiglaaW.PrintWords Go.Proofs.YtbgjoiccehiglaaW.PrintLast Go.Proofs.YtbgjoiccehiglaaW.PrintMore
attribute [local go_sem] max2_int min2_int max_two min_two max_three min_three max_four min_four
set_option linter.unusedVariables false
set_option linter.unusedSimpArgs false
attribute [local go_sem high] eqA53
mutual
def runs_Spread.j0 : Nat → List (S53) → Int → Bool → Option (List Int × Bool)
  | 0, _, _, _ => none
  | k + 1, x0, x1, x15 => if x15 = true then (some (([] : List Int), false)) else (runs_Spread.l0 k x1 ([] : List Int) x0 (x0.length : Int) 0)
def runs_Spread.l0 : Nat → Int → List Int → List (S53) → Int → Int → Option (List Int × Bool)
  | 0, _, _, _, _, _ => none
  | k + 1, x1, x6, x16, x17, x18 => if x18 < x17 then (if 0 ≤ x18 then (if x18 < (x16.length : Int) then (if ((rd_T53 x16 x18).f1) > (wrap64 (x1 - (x6.length : Int))) then (some (([] : List Int), false)) else ((slices_Repeat_uint64_uint64.f (([(rd_T53 x16 x18).f0] : List Int)) ((rd_T53 x16 x18).f1)).bind fun t275 => (if x6.length + t275.length < 17592186044416 then (runs_Spread.l0 k x1 (x6 ++ t275) x16 x17 (wrap64 (x18 + 1))) else (none)))) else (none)) else (none)) else (some (x6, true))
end
def runs_Spread.f (k : Nat) (l0 : List (S53)) (a1 : Int) : Option (List Int × Bool) := (runs_May.f k l0).bind fun t269 => (if t269 = true then (runs_Spread.j0 k l0 a1 (decide (a1 < 0))) else (runs_Spread.j0 k l0 a1 true))
end Go.Proofs.Ytbgjoiccehiglaa.Print
end
section
namespace Go.Proofs.Ytbgjoiccehiglaa.LibV
open Go.RowKit Go.Proofs.Ytbgjoiccehiglaa.Print Go.Proofs.YtbgjoiccehiglaaW.PrintWords Go.Proofs.YtbgjoiccehiglaaW.PrintLast Go.Proofs.YtbgjoiccehiglaaW.PrintMore Go.Proofs.Ytbgjoiccehiglaa.LibU
theorem w64 {n : Int} (h0 : -9223372036854775808 ≤ n) (h1 : n ≤ 9223372036854775807) : wrap64 n = n := by unfold wrap64; omega
theorem rd53_last (a : List S53) (r : S53) : rd_T53 (a ++ [r]) (a.length : Int) = r := by simp [rd_T53]
end Go.Proofs.Ytbgjoiccehiglaa.LibV
end
section
namespace Go.Proofs.Ytbgjoiccehiglaa.LibA
open Go.RowKit Go.Proofs.Ytbgjoiccehiglaa.Print Go.Proofs.YtbgjoiccehiglaaW.PrintWords Go.Proofs.YtbgjoiccehiglaaW.PrintLast
def SgAt (s : ByteArray) (i m : Int) : Prop :=
  (sgH (bt s i)).2.2.2 = true ∧ m = 1 + (sgH (bt s i)).1 ∧ i + m ≤ s.size ∧ sgR s (sgH (bt s i)).1.toNat (i + 1) (sgH (bt s i)).2.1 (sgH (bt s i)).2.2.1 = true
theorem SgAt.pos {s : ByteArray} {i m : Int} (h : SgAt s i m) : 1 ≤ m ∧ m ≤ 4 ∧ i + m ≤ s.size := by
  have := sgH_rest (bt s i)
  obtain ⟨_, rfl, h3, _⟩ := h
  omega
theorem SgAt.det {s : ByteArray} {i m m' : Int} (h : SgAt s i m) (h' : SgAt s i m') : m = m' := by
  rw [h.2.1, h'.2.1]
inductive Ch (s : ByteArray) : Nat → Int → Int → Prop
  | nil (i : Int) : Ch s 0 i i
  | cons {n : Nat} {i m j : Int} (h : SgAt s i m) (t : Ch s n (i + m) j) : Ch s (n + 1) i j
theorem Ch.size {s : ByteArray} {n : Nat} {i j : Int} (h : Ch s n i j) (hi : i ≤ s.size) : j ≤ s.size := by
  induction h with
  | nil => exact hi
  | cons h t ih => exact ih h.pos.2.2
theorem Ch.snoc {s : ByteArray} {n : Nat} {i j m : Int} (h : Ch s n i j) (hm : SgAt s j m) : Ch s (n + 1) i (j + m) := by
  induction h with
  | nil => exact .cons hm (.nil _)
  | cons h t ih => exact .cons h (ih hm)
theorem Ch.trans {s : ByteArray} {n n' : Nat} {i j k : Int} (h : Ch s n i j) (h' : Ch s n' j k) : Ch s (n + n') i k := by
  induction h with
  | nil => simpa using h'
  | cons h t ih => rw [show ∀ a b : Nat, a + 1 + b = (a + b) + 1 by omega]; exact .cons h (ih h')
theorem Ch.split {s : ByteArray} {n n' : Nat} {i j j' : Int} (h : Ch s n i j) (h' : Ch s n' i j') : (∃ c, n' = n + c ∧ Ch s c j j') ∨ (∃ c m, SgAt s j' m ∧ Ch s c (j' + m) j) := by
  induction h generalizing n' with
  | nil => exact .inl ⟨n', by omega, h'⟩
  | cons h t ih =>
    cases h' with
    | nil => exact .inr ⟨_, _, h, t⟩
    | cons h2 t2 =>
      have := h.det h2
      subst this
      rcases ih t2 with ⟨c, hc, hch⟩ | r
      · exact .inl ⟨c, by omega, hch⟩
      · exact .inr r
def Vld (s : ByteArray) : Prop := ∃ c, Ch s c 0 s.size
theorem bt_take {s : ByteArray} {n : Nat} (hn : n ≤ s.size) {d : Int} (h0 : 0 ≤ d) (h1 : d < n) : bt (s.extract 0 n) d = bt s d := by
  unfold bt
  rw [dif_pos (by rw [ByteArray.size_extract]; omega), dif_pos (by omega)]
  simp [ByteArray.getElem_extract]
theorem bt_drop {s : ByteArray} {a n : Nat} (hn : n ≤ s.size) {d : Int} (h0 : 0 ≤ d) (h1 : a + d < n) : bt (s.extract a n) d = bt s (a + d) := by
  unfold bt
  rw [dif_pos (by rw [ByteArray.size_extract]; omega), dif_pos (by omega)]
  have e : a + d.toNat = ((a : Int) + d).toNat := by omega
  simp only [ByteArray.getElem_extract, e]
theorem size_take {s : ByteArray} {n : Nat} (hn : n ≤ s.size) : (s.extract 0 n).size = n := by rw [ByteArray.size_extract]; omega
end Go.Proofs.Ytbgjoiccehiglaa.LibA
end
section
namespace Go.Proofs.Ytbgjoiccehiglaa.LibB
open Go.RowKit Go.Proofs.Ytbgjoiccehiglaa.Print Go.Proofs.YtbgjoiccehiglaaW.PrintWords Go.Proofs.YtbgjoiccehiglaaW.PrintLast Go.Proofs.YtbgjoiccehiglaaW.PrintMore Go.Proofs.Ytbgjoiccehiglaa.LibA
theorem w64 {n : Int} (h0 : -9223372036854775808 ≤ n) (h1 : n ≤ 9223372036854775807) : wrap64 n = n := by unfold wrap64; omega
noncomputable instance (s : ByteArray) : Decidable (Vld s) := Classical.propDecidable _
end Go.Proofs.Ytbgjoiccehiglaa.LibB
end
section
namespace Go.Proofs.Ytbgjoiccehiglaa.LibC
open Go.RowKit Go.Proofs.Ytbgjoiccehiglaa.Print Go.Proofs.YtbgjoiccehiglaaW.PrintWords Go.Proofs.YtbgjoiccehiglaaW.PrintLast Go.Proofs.YtbgjoiccehiglaaW.PrintMore Go.Proofs.Ytbgjoiccehiglaa.LibA Go.Proofs.Ytbgjoiccehiglaa.LibB
theorem or128 (a : Int) (h0 : 0 ≤ a) (h1 : a < 256) : bits .or .u8 a 128 = a % 128 + 128 := by
  obtain ⟨n, rfl⟩ := Int.eq_ofNat_of_zero_le h0
  have key : ∀ m : Fin 256, bits .or .u8 ((m.val : Nat) : Int) 128 = ((m.val : Nat) : Int) % 128 + 128 := by decide +kernel
  exact key ⟨n, by omega⟩
def putL : Nat → Int → List Int
  | 0, x => [x]
  | d + 1, x => if x ≥ 128 then (x % 128 + 128) :: putL d (x / 128) else [x]
theorem put_l : ∀ (d k : Nat) (x : Int) (acc : List Int), 0 ≤ x → x < 128 ^ (d + 1) → x < 18446744073709551616 → acc.length + d < 140737488355328 →
    pack_Put.l0 (d + 1 + k) x acc = some (strOfNums (acc ++ putL d x)) ∧ bonsairef03_Put.l0 (d + 1 + k) x acc = some (strOfNums (acc ++ putL d x))
  | 0, k, x, acc, h0, h1, h2, h3 => by
    rw [show 0 + 1 + k = k + 1 by omega]
    simp only [pack_Put.l0, bonsairef03_Put.l0, putL]
    rw [if_neg (by omega), if_pos (by omega), if_neg (by omega), show x % 256 = x by omega]
    exact ⟨rfl, rfl⟩
  | d + 1, k, x, acc, h0, h1, h2, h3 => by
    rw [show d + 1 + 1 + k = (d + 1 + k) + 1 by omega]
    simp only [pack_Put.l0, bonsairef03_Put.l0, putL]
    by_cases hx : x ≥ 128
    · have hd : x / 128 < 128 ^ (d + 1) := by
        rw [Int.pow_succ] at h1
        exact Int.ediv_lt_of_lt_mul (by omega) h1
      obtain ⟨e1, e2⟩ := put_l d k (x / 128) (acc ++ [x % 128 + 128]) (by omega) hd (by omega) (by simp; omega)
      rw [if_pos hx, if_pos (by omega), if_pos hx, if_pos (by omega), if_pos (by omega)]
      rw [or128 (x % 256) (by omega) (by omega), show x % 256 % 128 = x % 128 by omega, e1]
      rw [Int.tdiv_eq_ediv_of_nonneg h0, Int.tmod_eq_emod_of_nonneg h0, pack_wraps_u64 _ (by omega) (by omega), show (x % 128 + 128) % 256 = x % 128 + 128 by omega, e2]
      simp
    · rw [if_neg hx, if_pos (by omega), if_neg hx, if_neg (by omega), show x % 256 = x by omega]
      exact ⟨rfl, rfl⟩
theorem put_some (x : Int) (h0 : 0 ≤ x) (h1 : x < 18446744073709551616) (k : Nat) (hk : 10 ≤ k) : pack_Put.f k x = some (strOfNums (putL 9 x)) ∧ bonsairef03_Put.f k x = some (strOfNums (putL 9 x)) := by
  have := put_l 9 (k - 10) x [] h0 (by omega) h1 (by simp)
  rw [show 9 + 1 + (k - 10) = k by omega] at this
  simpa [pack_Put.f, bonsairef03_Put.f] using this
theorem putL_length : ∀ (d : Nat) (x : Int), 1 ≤ (putL d x).length ∧ (putL d x).length ≤ d + 1
  | 0, x => by simp [putL]
  | d + 1, x => by
    have := putL_length d (x / 128)
    unfold putL
    split <;> simp <;> omega
end Go.Proofs.Ytbgjoiccehiglaa.LibC
end
section
namespace Go.Proofs.Ytbgjoiccehiglaa.LibD
open Go.RowKit Go.Proofs.Ytbgjoiccehiglaa.Print Go.Proofs.YtbgjoiccehiglaaW.PrintWords Go.Proofs.YtbgjoiccehiglaaW.PrintLast Go.Proofs.YtbgjoiccehiglaaW.PrintMore Go.Proofs.Ytbgjoiccehiglaa.LibA Go.Proofs.Ytbgjoiccehiglaa.LibB Go.Proofs.Ytbgjoiccehiglaa.LibC
def numRef (R : Int × Int × Int) (S : ByteArray) (at_ : Int) : Int × ByteArray × Int × Int := if R.1 = 0 then (R.2.1, S, at_ + R.2.2, 0) else (0, S, at_, R.1)
theorem num_l (S s : ByteArray) (a : Int) (ha : 0 ≤ a) (hS : S.size ≤ 140737488351232) (hs : (S.size : Int) = a + s.size) (hb : ∀ d : Int, 0 ≤ d → d < s.size → bt S (a + d) = bt s d) :
    ∀ (d : Nat) (i n : Int) (k : Nat), i + (d + 1 : Nat) = 10 → 0 ≤ i → i ≤ s.size → 0 ≤ n → n < 128 ^ i.toNat →
      bonsairef03_Reader_Num.l0 (3 * (d + 1) + k) n (128 ^ i.toNat) i S a 0 = some (numRef (numL s (d + 1) i n) S a)
  | d, i, n, k, hd, hi0, his, hn0, hn => by
    rw [show 3 * (d + 1) + k = (((3 * d + k) + 1) + 1) + 1 by omega]
    simp only [bonsairef03_Reader_Num.l0, bonsairef03_Reader_Num.j1, numL]
    rw [if_pos (by omega), w64 (show -9223372036854775808 ≤ a + i by omega) (by omega)]
    simp only [BEq.rfl, if_true]
    by_cases hlt : i < (s.size : Int)
    · rw [if_neg (by omega), if_pos (by omega), if_pos (by omega), if_pos hlt, hb i hi0 hlt]
      have hr := bt_range s i
      rw [pack_wraps_u64 _ hr.1 (by omega)]
      by_cases hok : (i < 9 ∨ bt s i ≤ 1) ∧ (i = 0 ∨ bt s i ≠ 0)
      · rw [if_pos hok]
        have hj : ∀ X : Bool, X = false → (bonsairef03_Reader_Num.j2 (3 * d + k + 1) n (128 ^ i.toNat) i (bt s i) X S a 0 = some (numRef (if bt s i < 128 then (0, n + bt s i % 128 * 128 ^ i.toNat, i + 1) else numL s d (i + 1) (n + bt s i % 128 * 128 ^ i.toNat)) S a)) := by
          rintro X rfl
          simp only [bonsairef03_Reader_Num.j2, Bool.false_eq_true, if_false]
          obtain ⟨_, h64⟩ := num_step i (bt s i) n hi0 (by omega) hr.1 hr.2 hok.1 hn0 hn
          have hm0 : 0 ≤ bt s i % 128 * 128 ^ i.toNat := Int.mul_nonneg (by omega) (by have := (pack_pow9 i (by omega)).2; omega)
          rw [Int.tmod_eq_emod_of_nonneg hr.1, pack_wraps_u64 (bt s i % 128 * 128 ^ i.toNat) hm0 (by omega), pack_wraps_u64 (n + _) (by omega) h64]
          by_cases hb1 : bt s i < 128
          · rw [if_pos hb1, if_pos hb1, w64 (show -9223372036854775808 ≤ a + i by omega) (by omega), w64 (show -9223372036854775808 ≤ a + i + 1 by omega) (by omega)]
            simp only [numRef, if_true]
            congr 4
            omega
          · rw [if_neg hb1, if_neg hb1]
            have h9 : i < 9 := by omega
            cases d with
            | zero => omega
            | succ d =>
              have hp : bt s i % 128 * 128 ^ i.toNat ≤ 127 * 128 ^ i.toNat := Int.mul_le_mul_of_nonneg_right (by omega) (by have := (pack_pow9 i (by omega)).2; omega)
              have he : (128 : Int) ^ (i + 1).toNat = 128 ^ i.toNat * 128 := by rw [show (i + 1).toNat = i.toNat + 1 by omega, Int.pow_succ]
              have h8 := pack_pow8 i (by omega)
              have hq := (pack_pow9 i (by omega)).2
              rw [pack_wraps_u64 (128 ^ i.toNat * 128) (by omega) (by omega), w64 (by omega) (by omega), ← he]
              exact num_l S s a ha hS hs hb d (i + 1) _ k (by omega) (by omega) (by omega) (by omega) (by omega)
        by_cases h9 : i = 9
        · rw [if_pos h9, if_neg (by omega), if_pos (by omega)]
          exact hj _ (by simp; omega)
        · rw [if_neg h9]
          by_cases h0 : i > 0
          · rw [if_pos h0]
            exact hj _ (by simp; omega)
          · rw [if_neg h0]
            exact hj _ rfl
      · rw [if_neg hok]
        have hj : ∀ X : Bool, X = true → bonsairef03_Reader_Num.j2 (3 * d + k + 1) n (128 ^ i.toNat) i (bt s i) X S a 0 = some (numRef (3, 0, 0) S a) := by
          rintro X rfl
          simp only [bonsairef03_Reader_Num.j2, if_true, numRef]
          rfl
        by_cases h9 : i = 9
        · rw [if_pos h9]
          by_cases hb1 : bt s i > 1
          · rw [if_pos hb1]
            exact hj _ rfl
          · rw [if_neg hb1, if_pos (by omega)]
            exact hj _ (by simp; omega)
        · rw [if_neg h9, if_pos (by omega)]
          exact hj _ (by simp; omega)
    · rw [if_pos (by omega), if_neg hlt]
      rfl
structure Sim (S : ByteArray) (a : Int) (r : ByteArray) : Prop where
  big : S.size ≤ 140737488351232
  lo : 0 ≤ a
  size : (S.size : Int) = a + r.size
  rest : r = S.extract a.toNat S.size
theorem Sim.byte {S r : ByteArray} {a : Int} (h : Sim S a r) (d : Int) (h0 : 0 ≤ d) (h1 : d < r.size) : bt S (a + d) = bt r d := by
  have := h.size
  have := h.lo
  rw [h.rest, bt_drop (Nat.le_refl _) h0 (by omega)]
  congr 1
  omega
theorem Sim.begin (S : ByteArray) (hS : S.size ≤ 140737488351232) (a : Int) (h0 : 0 ≤ a) (h1 : a ≤ S.size) : Sim S a (S.extract a.toNat S.size) :=
  ⟨hS, h0, by rw [ByteArray.size_extract]; omega, rfl⟩
theorem Sim.go {S r : ByteArray} {a : Int} (h : Sim S a r) (n : Int) (h0 : 0 ≤ n) (h1 : n ≤ r.size) : Sim S (a + n) (r.extract n.toNat r.size) := by
  have := h.size
  have := h.lo
  refine ⟨h.big, by omega, by rw [ByteArray.size_extract]; omega, ?_⟩
  conv => lhs; rw [h.rest]
  rw [ByteArray.extract_extract]
  congr 1
  · omega
  · rw [ByteArray.size_extract]; omega
theorem numL_is (s : ByteArray) : ∀ (d : Nat) (i n : Int), i + (d : Nat) = 10 → 0 ≤ i → i ≤ s.size → 0 ≤ n → n < 128 ^ i.toNat →
    ((numL s d i n).1 = 0 → 0 ≤ (numL s d i n).2.1 ∧ (numL s d i n).2.1 < 18446744073709551616 ∧ i < (numL s d i n).2.2 ∧ (numL s d i n).2.2 ≤ s.size) ∧ ((numL s d i n).1 = 0 ∨ (numL s d i n).1 = 2 ∨ (numL s d i n).1 = 3)
  | 0, i, n, _, _, _, _, _ => by simp [numL]
  | d + 1, i, n, hd, hi0, his, hn0, hn => by
    have hr := bt_range s i
    simp only [numL]
    by_cases hlt : i < (s.size : Int)
    · rw [if_pos hlt]
      by_cases hok : (i < 9 ∨ bt s i ≤ 1) ∧ (i = 0 ∨ bt s i ≠ 0)
      · rw [if_pos hok]
        obtain ⟨_, h64⟩ := num_step i (bt s i) n hi0 (by omega) hr.1 hr.2 hok.1 hn0 hn
        have hm0 : 0 ≤ bt s i % 128 * 128 ^ i.toNat := Int.mul_nonneg (by omega) (by have := (pack_pow9 i (by omega)).2; omega)
        by_cases hb1 : bt s i < 128
        · rw [if_pos hb1]
          exact ⟨fun _ => ⟨by show 0 ≤ n + _; omega, by show n + _ < _; omega, by show i < i + 1; omega, by show i + 1 ≤ _; omega⟩, .inl rfl⟩
        · rw [if_neg hb1]
          have hp : bt s i % 128 * 128 ^ i.toNat ≤ 127 * 128 ^ i.toNat := Int.mul_le_mul_of_nonneg_right (by omega) (by have := (pack_pow9 i (by omega)).2; omega)
          have he : (128 : Int) ^ (i + 1).toNat = 128 ^ i.toNat * 128 := by rw [show (i + 1).toNat = i.toNat + 1 by omega, Int.pow_succ]
          have := numL_is s d (i + 1) (n + bt s i % 128 * 128 ^ i.toNat) (by omega) (by omega) (by omega) (by omega) (by omega)
          exact ⟨fun h => by have := this.1 h; omega, this.2⟩
      · rw [if_neg hok]
        exact ⟨(fun h => by cases h), .inr (.inr rfl)⟩
    · rw [if_neg hlt]
      exact ⟨(fun h => by cases h), .inr (.inl rfl)⟩
theorem Sim.num {S r : ByteArray} {a : Int} (h : Sim S a r) (e : Int) : ∃ (v : Int) (r' : ByteArray) (e' a' : Int), pack_Reader_Num.f r e = some (v, r', e') ∧ (∀ k, 30 ≤ k → bonsairef03_Reader_Num.f k S a e = some (v, S, a', e')) ∧ Sim S a' r' ∧ 0 ≤ v ∧ v < 18446744073709551616 ∧
    (e ≠ 0 → v = 0 ∧ e' = e ∧ r' = r ∧ a' = a) ∧ (e = 0 → e' = 0 ∨ e' = 2 ∨ e' = 3) ∧ (e' = 0 → a < a') ∧ (e' ≠ 0 → v = 0 ∧ r' = r ∧ a' = a) := by
  have hsz := h.size
  have hlo := h.lo
  have hbig := h.big
  have hrs : r.size ≤ 9223372036854775000 := by omega
  by_cases he : e = 0
  · subst he
    have hk : ∀ k, 30 ≤ k → bonsairef03_Reader_Num.f k S a 0 = some (numRef (numL r 10 0 0) S a) := fun k hk => by
      have := num_l S r a h.lo h.big h.size h.byte 9 0 0 (k - 30) (by omega) (by omega) (by omega) (by omega) (by decide)
      rw [show 3 * (9 + 1) + (k - 30) = k by omega] at this
      exact this
    obtain ⟨hn1, hn2⟩ := numL_is r 10 0 0 (by omega) (by omega) (by omega) (by omega) (by decide)
    unfold pack_Reader_Num.f
    rw [if_pos hrs, if_pos rfl]
    by_cases hR : (numL r 10 0 0).1 = 0
    · have hn := hn1 hR
      refine ⟨_, _, _, a + (numL r 10 0 0).2.2, by rw [if_pos hR], fun k h' => by rw [hk k h']; unfold numRef; rw [if_pos hR], h.go _ (by omega) (by omega), hn.1, hn.2.1, fun h => absurd rfl h, fun _ => .inl rfl, fun _ => by omega, fun h => absurd rfl h⟩
    · refine ⟨_, _, _, a, by rw [if_neg hR], fun k h' => by rw [hk k h']; unfold numRef; rw [if_neg hR], h, by omega, by omega, fun h => absurd rfl h, fun _ => by omega, fun h => absurd h hR, fun _ => ⟨rfl, rfl, rfl⟩⟩
  · refine ⟨0, r, e, a, by unfold pack_Reader_Num.f; rw [if_pos hrs, if_neg he], fun k hk => ?_, h, by omega, by omega, fun _ => ⟨rfl, rfl, rfl, rfl⟩, fun h => absurd h he, fun h => absurd h he, fun _ => ⟨rfl, rfl, rfl⟩⟩
    obtain ⟨k, rfl⟩ : ∃ m, k = m + 2 := ⟨k - 2, by omega⟩
    unfold bonsairef03_Reader_Num.f
    simp only [bonsairef03_Reader_Num.l0, bonsairef03_Reader_Num.j1]
    rw [if_pos (by omega), if_neg (by simpa using he)]
theorem Sim.left {S r : ByteArray} {a : Int} (h : Sim S a r) (e : Int) : pack_Reader_Left.f r e = some ((r.size : Int), r, e) ∧ bonsairef03_Reader_Left.f S a e = some ((r.size : Int), S, a, e) := by
  have := h.size
  have := h.lo
  have := h.big
  exact ⟨rfl, by unfold bonsairef03_Reader_Left.f; rw [w64 (by omega) (by omega)]; congr 2; omega⟩
theorem Sim.take {S r : ByteArray} {a : Int} (h : Sim S a r) (n : Int) (h0 : 0 ≤ n) (h1 : n ≤ r.size) : pack_Reader_Take.f r 0 n = some (r.extract 0 n.toNat, r.extract n.toNat r.size, 0) ∧
    (∀ k, 1 ≤ k → bonsairef03_Reader_Take.f k S a 0 n = some (r.extract 0 n.toNat, S, a + n, 0)) := by
  have hsz := h.size
  have hlo := h.lo
  have hbig := h.big
  refine ⟨by unfold pack_Reader_Take.f; rw [if_pos rfl, if_pos ⟨h0, h1⟩], fun k hk => ?_⟩
  obtain ⟨k, rfl⟩ : ∃ m, k = m + 1 := ⟨k - 1, by omega⟩
  unfold bonsairef03_Reader_Take.f
  rw [if_pos rfl, if_neg (by omega), w64 (show -9223372036854775808 ≤ (S.size : Int) - a by omega) (by omega)]
  simp only [bonsairef03_Reader_Take.j0]
  rw [if_neg (by simp; omega), if_pos trivial, w64 (show -9223372036854775808 ≤ a + n by omega) (by omega), w64 (show -9223372036854775808 ≤ a + n - n by omega) (by omega), if_pos (by omega), if_pos (by omega), if_pos (by omega)]
  congr 2
  conv => rhs; rw [h.rest]
  rw [ByteArray.extract_extract]
  congr 1
  · omega
  · omega
end Go.Proofs.Ytbgjoiccehiglaa.LibD
end
namespace Go.Proofs.Ytbgjoiccehiglaa.Print
end Go.Proofs.Ytbgjoiccehiglaa.Print
section
namespace Go.Proofs.Ytbgjoiccehiglaa.LibE
open Go.RowKit Go.Proofs.Ytbgjoiccehiglaa.Print Go.Proofs.YtbgjoiccehiglaaW.PrintWords Go.Proofs.YtbgjoiccehiglaaW.PrintLast Go.Proofs.YtbgjoiccehiglaaW.PrintMore Go.Proofs.Ytbgjoiccehiglaa.LibA Go.Proofs.Ytbgjoiccehiglaa.LibB Go.Proofs.Ytbgjoiccehiglaa.LibC Go.Proofs.Ytbgjoiccehiglaa.LibD
def noText : ByteArray := ⟨#[]⟩
end Go.Proofs.Ytbgjoiccehiglaa.LibE
end
section
namespace Go.Proofs.Ytbgjoiccehiglaa.LibF
open Go.RowKit Go.Proofs.Ytbgjoiccehiglaa.Print Go.Proofs.YtbgjoiccehiglaaW.PrintWords Go.Proofs.YtbgjoiccehiglaaW.PrintLast Go.Proofs.YtbgjoiccehiglaaW.PrintMore Go.Proofs.Ytbgjoiccehiglaa.LibA Go.Proofs.Ytbgjoiccehiglaa.LibB
theorem bt_app_left {s t : ByteArray} {d : Int} (h0 : 0 ≤ d) (h1 : d < s.size) : bt (s ++ t) d = bt s d := by
  unfold bt
  rw [dif_pos (by rw [ByteArray.size_append]; omega), dif_pos (by omega)]
  rw [ByteArray.getElem_append_left (by omega)]
theorem bt_app_right {s t : ByteArray} {d : Int} (h0 : 0 ≤ d) (h1 : d < t.size) : bt (s ++ t) (s.size + d) = bt t d := by
  unfold bt
  rw [dif_pos (by rw [ByteArray.size_append]; omega), dif_pos (by omega)]
  rw [ByteArray.getElem_append_right (by omega)]
  have e : ((s.size : Int) + d).toNat - s.size = d.toNat := by omega
  simp only [e]
end Go.Proofs.Ytbgjoiccehiglaa.LibF
end
section
namespace Go.Proofs.Ytbgjoiccehiglaa.LibG
open Go.RowKit Go.Proofs.Ytbgjoiccehiglaa.Print Go.Proofs.YtbgjoiccehiglaaW.PrintWords Go.Proofs.YtbgjoiccehiglaaW.PrintLast Go.Proofs.YtbgjoiccehiglaaW.PrintMore Go.Proofs.Ytbgjoiccehiglaa.LibA Go.Proofs.Ytbgjoiccehiglaa.LibB Go.Proofs.Ytbgjoiccehiglaa.LibC Go.Proofs.Ytbgjoiccehiglaa.LibD Go.Proofs.Ytbgjoiccehiglaa.LibE Go.Proofs.Ytbgjoiccehiglaa.LibF
theorem ba_ext {a b : ByteArray} (hs : a.size = b.size) (h : ∀ i : Int, 0 ≤ i → i < a.size → bt a i = bt b i) : a = b := by
  apply ByteArray.ext
  apply Array.ext hs
  intro i h1 h2
  have := h i (by omega) (by have : i < a.size := h1; omega)
  unfold bt at this
  rw [dif_pos (by have : i < a.size := h1; omega), dif_pos (by have : i < b.size := h2; omega)] at this
  have e : (a[((i : Nat) : Int).toNat]'(by have : i < a.size := h1; omega)) = (b[((i : Nat) : Int).toNat]'(by have : i < b.size := h2; omega)) := UInt8.toNat_inj.mp (by omega)
  simpa [ByteArray.getElem_eq_getElem_data] using e
theorem bt_nums {xs : List Int} (hx : ∀ x ∈ xs, 0 ≤ x ∧ x < 256) {i : Nat} (hi : i < xs.length) : bt (strOfNums xs) i = xs[i] := by
  unfold bt
  rw [dif_pos (by rw [strOfNums_size]; omega)]
  have := hx xs[i] (List.getElem_mem hi)
  simp only [strOfNums, ByteArray.getElem_eq_getElem_data, Int.toNat_natCast, List.getElem_toArray, List.getElem_map]
  rw [UInt8.toNat_ofNat']
  omega
theorem putL_bytes : ∀ (d : Nat) (x : Int), 0 ≤ x → x < 128 ^ (d + 1) → ∀ y ∈ putL d x, 0 ≤ y ∧ y < 256
  | 0, x, h0, h1, y, hy => by
    simp [putL] at hy
    subst hy
    omega
  | d + 1, x, h0, h1, y, hy => by
    unfold putL at hy
    split at hy
    · rcases List.mem_cons.mp hy with rfl | hy
      · omega
      · refine putL_bytes d (x / 128) (by omega) ?_ y hy
        rw [Int.pow_succ] at h1
        exact Int.ediv_lt_of_lt_mul (by omega) h1
    · simp at hy
      subst hy
      omega
theorem pow_le {a b : Nat} (h : a ≤ b) : (128 : Int) ^ a ≤ 128 ^ b := by
  induction h with
  | refl => exact Int.le_refl _
  | @step m _ ih => rw [Int.pow_succ]; have : (0 : Int) < 128 ^ a := Int.pow_pos (by decide); omega
theorem pow_pos (n : Nat) : (0 : Int) < 128 ^ n := Int.pow_pos (by decide)
theorem num_put (s : ByteArray) : ∀ (d k : Nat) (i acc x : Int), 0 ≤ x → x < 128 ^ (d + 1) → 0 ≤ i → (i = 0 ∨ 0 < x) → x * 128 ^ i.toNat < 18446744073709551616 → d + 1 ≤ k → i + (putL d x).length ≤ s.size →
    (∀ j (hj : j < (putL d x).length), bt s (i + j) = (putL d x)[j]) → numL s k i acc = (0, acc + x * 128 ^ i.toNat, i + (putL d x).length)
  | d, 0, _, _, _, _, _, _, _, _, hk, _, _ => by omega
  | d, k + 1, i, acc, x, h0, h1, hi0, hx, h64, hk, hs, hb => by
    have hl := putL_length d x
    have hb0 := hb 0 (by omega)
    simp only [Int.add_zero, Int.natCast_zero] at hb0
    have h9 : i < 10 → (i < 9 ∨ x ≤ 1) := fun h => by
      by_cases h9 : i < 9
      · exact .inl h9
      · right
        have : i.toNat = 9 := by omega
        rw [this] at h64
        omega
    have h10 : ¬ i < 10 → x = 0 := fun h => by
      have h2 : (128 : Int) ^ 10 ≤ 128 ^ i.toNat := pow_le (by omega)
      by_cases hx0 : x = 0
      · exact hx0
      · have : 1 * 128 ^ i.toNat ≤ x * 128 ^ i.toNat := Int.mul_le_mul_of_nonneg_right (by omega) (by omega)
        omega
    simp only [numL]
    rw [if_pos (by omega)]
    by_cases hbig : x ≥ 128
    · have h8 : i < 9 := by
        by_cases h : i < 10
        · have := h9 h; omega
        · have := h10 h; omega
      cases d with
      | zero => simp at h1; omega
      | succ d =>
        have hp : putL (d + 1) x = (x % 128 + 128) :: putL d (x / 128) := by show (if x ≥ 128 then _ else _) = _; rw [if_pos hbig]
        have hc : bt s i = x % 128 + 128 := by rw [hb0]; simp only [hp, List.getElem_cons_zero]
        rw [hc, if_pos ⟨.inl h8, .inr (by omega)⟩, if_neg (by omega)]
        have e1 : (x % 128 + 128) % 128 = x % 128 := by omega
        have e2 : (128 : Int) ^ (i + 1).toNat = 128 ^ i.toNat * 128 := by rw [show (i + 1).toNat = i.toNat + 1 by omega, Int.pow_succ]
        have e3 : x * 128 ^ i.toNat = x % 128 * 128 ^ i.toNat + x / 128 * (128 ^ i.toNat * 128) := by
          have h := Int.emod_add_mul_ediv x 128
          conv => lhs; rw [← h]
          rw [Int.add_mul, Int.mul_comm 128 (x / 128), Int.mul_assoc, Int.mul_comm 128 (128 ^ i.toNat)]
        have hm : 0 ≤ x % 128 * 128 ^ i.toNat := Int.mul_nonneg (by omega) (by have := pow_pos i.toNat; omega)
        have := num_put s d k (i + 1) (acc + (x % 128 + 128) % 128 * 128 ^ i.toNat) (x / 128) (by omega) (by rw [Int.pow_succ] at h1; exact Int.ediv_lt_of_lt_mul (by omega) h1) (by omega) (.inr (by omega)) (by rw [e2]; omega) (by omega) (by rw [hp, List.length_cons] at hs; omega)
          (fun j hj => by
            have := hb (j + 1) (by rw [hp, List.length_cons]; omega)
            simp only [hp, List.getElem_cons_succ] at this
            rw [← this]
            congr 1
            omega)
        rw [this, hp, List.length_cons, e1, e2, e3]
        simp only [Prod.mk.injEq, true_and]
        constructor <;> omega
    · have hp : putL d x = [x] := by
        cases d with
        | zero => rfl
        | succ d => show (if x ≥ 128 then _ else _) = _; rw [if_neg hbig]
      have hc : bt s i = x := by rw [hb0]; simp only [hp, List.getElem_cons_zero]
      have hcond : i < 9 ∨ x ≤ 1 := by
        by_cases h : i < 10
        · exact h9 h
        · right; rw [h10 h]; decide
      rw [hc, if_pos ⟨hcond, by omega⟩, if_pos (by omega), hp, show x % 128 = x by omega]
      rfl
theorem num_canon (s : ByteArray) : ∀ (k : Nat) (i acc : Int), 0 ≤ i → i + (k + 1 : Nat) = 10 → (numL s (k + 1) i acc).1 = 0 →
    ∃ x : Int, 0 ≤ x ∧ x < 128 ^ (k + 1) ∧ (i = 0 ∨ 0 < x) ∧ (numL s (k + 1) i acc).2.1 = acc + x * 128 ^ i.toNat ∧ (numL s (k + 1) i acc).2.2 = i + (putL k x).length ∧ i + (putL k x).length ≤ s.size ∧ ∀ j (hj : j < (putL k x).length), bt s (i + j) = (putL k x)[j]
  | k, i, acc, hi, hk, h => by
    simp only [numL] at h ⊢
    have hr := bt_range s i
    by_cases hlt : i < (s.size : Int)
    · rw [if_pos hlt] at h ⊢
      by_cases hok : (i < 9 ∨ bt s i ≤ 1) ∧ (i = 0 ∨ bt s i ≠ 0)
      · rw [if_pos hok] at h ⊢
        by_cases hb : bt s i < 128
        · rw [if_pos hb] at h ⊢
          have hp : putL k (bt s i) = [bt s i] := by
            cases k with
            | zero => rfl
            | succ d => show (if bt s i ≥ 128 then _ else _) = _; rw [if_neg (by omega)]
          refine ⟨bt s i, hr.1, ?_, by omega, by rw [show bt s i % 128 = bt s i by omega], by rw [hp]; rfl, by rw [hp]; simp; omega, fun j hj => ?_⟩
          · have : (128 : Int) ^ 1 ≤ 128 ^ (k + 1) := pow_le (by omega)
            omega
          · simp only [hp, List.length_singleton] at hj ⊢
            have : j = 0 := by omega
            subst this
            simp
        · rw [if_neg hb] at h ⊢
          cases k with
          | zero => omega
          | succ k =>
            obtain ⟨x, h1, h2, h3, h4, h5, h6, h7⟩ := num_canon s k (i + 1) _ (by omega) (by omega) h
            have hx : 0 < x := by omega
            have hp : putL (k + 1) (x * 128 + bt s i % 128) = bt s i :: putL k x := by
              show (if x * 128 + bt s i % 128 ≥ 128 then ((x * 128 + bt s i % 128) % 128 + 128) :: putL k ((x * 128 + bt s i % 128) / 128) else _) = _
              rw [if_pos (by omega), show (x * 128 + bt s i % 128) / 128 = x by omega, show (x * 128 + bt s i % 128) % 128 + 128 = bt s i by omega]
            refine ⟨x * 128 + bt s i % 128, by omega, by rw [Int.pow_succ]; omega, .inr (by omega), ?_, ?_, ?_, ?_⟩
            · rw [h4, show (i + 1).toNat = i.toNat + 1 by omega, Int.pow_succ, Int.add_mul, Int.mul_assoc, Int.mul_comm 128 (128 ^ i.toNat)]
              omega
            · rw [h5, hp, List.length_cons]; omega
            · rw [hp, List.length_cons]; omega
            · intro j hj
              cases j with
              | zero => simp only [hp, List.getElem_cons_zero]; simp
              | succ j =>
                rw [hp, List.length_cons] at hj
                simp only [hp, List.getElem_cons_succ]
                rw [← h7 j (by omega)]
                congr 1
                omega
      · rw [if_neg hok] at h
        cases h
    · rw [if_neg hlt] at h
      cases h
theorem put_read (x : Int) (h0 : 0 ≤ x) (h1 : x < 18446744073709551616) (t : ByteArray) : numL (strOfNums (putL 9 x) ++ t) 10 0 0 = ((0, x, ((putL 9 x).length : Int)) : Int × Int × Int) := by
  have hx : x < 128 ^ (9 + 1) := by omega
  have hs : (strOfNums (putL 9 x)).size = (putL 9 x).length := strOfNums_size _
  have := num_put (strOfNums (putL 9 x) ++ t) 9 10 0 0 x h0 hx (by omega) (.inl rfl) (by simpa using h1) (by omega) (by rw [ByteArray.size_append, hs]; omega) (fun j hj => by
    rw [Int.zero_add, bt_app_left (by omega) (by rw [hs]; omega)]
    exact bt_nums (putL_bytes 9 x h0 hx) hj)
  rw [this]
  simp
theorem read_put (s : ByteArray) (h : (numL s 10 0 0).1 = 0) : s.extract 0 (numL s 10 0 0).2.2.toNat = strOfNums (putL 9 (numL s 10 0 0).2.1) := by
  obtain ⟨x, h1, h2, _, h4, h5, h6, h7⟩ := num_canon s 9 0 0 (by omega) (by omega) h
  have e4 : (numL s 10 0 0).2.1 = x := by simpa using h4
  have e5 : (numL s 10 0 0).2.2 = (putL 9 x).length := by simpa using h5
  have h6' : (putL 9 x).length ≤ s.size := by omega
  rw [e4, e5, Int.toNat_natCast]
  refine ba_ext (by rw [size_take h6', strOfNums_size]) (fun i h0 hi => ?_)
  rw [size_take h6'] at hi
  obtain ⟨j, rfl⟩ := Int.eq_ofNat_of_zero_le h0
  rw [bt_take h6' h0 hi, bt_nums (putL_bytes 9 x h1 h2) (by omega)]
  have := h7 j (by omega)
  rwa [Int.zero_add] at this
theorem app_cut (a b : ByteArray) : (a ++ b).extract a.size (a ++ b).size = b := by
  refine ba_ext (by rw [ByteArray.size_extract, ByteArray.size_append]; omega) (fun i h0 hi => ?_)
  rw [ByteArray.size_extract, ByteArray.size_append] at hi
  rw [bt_drop (Nat.le_refl _) h0 (by rw [ByteArray.size_append]; omega), bt_app_right h0 (by omega)]
theorem take_drop (s : ByteArray) (n : Nat) (hn : n ≤ s.size) : s.extract 0 n ++ s.extract n s.size = s := by
  refine ba_ext (by rw [ByteArray.size_append, size_take hn, ByteArray.size_extract]; omega) (fun i h0 hi => ?_)
  rw [ByteArray.size_append, size_take hn, ByteArray.size_extract] at hi
  by_cases h : i < n
  · rw [bt_app_left h0 (by rw [size_take hn]; exact h), bt_take hn h0 h]
  · obtain ⟨j, rfl⟩ : ∃ j, i = ((s.extract 0 n).size : Int) + j := ⟨i - n, by rw [size_take hn]; omega⟩
    rw [size_take hn] at h hi
    rw [bt_app_right (by omega) (by rw [ByteArray.size_extract]; omega), bt_drop (Nat.le_refl _) (by omega) (by omega), size_take hn]
end Go.Proofs.Ytbgjoiccehiglaa.LibG
end
section
namespace Go.Proofs.Ytbgjoiccehiglaa.Print
open Go.RowKit Go.Proofs.YtbgjoiccehiglaaW.PrintWords Go.Proofs.YtbgjoiccehiglaaW.PrintLast Go.Proofs.YtbgjoiccehiglaaW.PrintMore
attribute [local go_sem] max2_int min2_int max_two min_two max_three min_three max_four min_four
set_option linter.unusedVariables false
set_option linter.unusedSimpArgs false
def runs_Decode.l0 : Nat → Int → List (S53) → Int → ByteArray → Int → Option (List Int × Int)
  | 0, _, _, _, _, _ => none
  | k + 1, x1, x7, x8, x306000, x306001 => (pack_Reader_Left.f x306000 x306001).bind fun bt306 => (if bt306.1 > 0 then ((pack_Reader_Num.f bt306.2.1 bt306.2.2).bind fun bt313 => ((pack_Reader_Num.f bt313.2.1 bt313.2.2).bind fun bt316 => ((pack_Reader_Err.f bt316.2.1 bt316.2.2).bind fun bt319 => (if bt319.1 = 0 then (if bt316.1 = 0 then (some (([] : List Int), 5)) else (if bt316.1 > (IntKind.u64.wrap (x8)) then (some (([] : List Int), 5)) else (if (wrap64 ((x7.length : Int) - 1)) ≥ 0 then (if 0 ≤ (wrap64 ((x7.length : Int) - 1)) then (if (wrap64 ((x7.length : Int) - 1)) < (x7.length : Int) then (if ((rd_T53 x7 (wrap64 ((x7.length : Int) - 1))).f0) = bt313.1 then (some (([] : List Int), 5)) else (if x7.length < 8796093022208 then (runs_Decode.l0 k x1 (x7 ++ [(⟨bt313.1, wrap64 (bt316.1)⟩ : S53)]) (wrap64 (x8 - (wrap64 (bt316.1)))) bt319.2.1 bt319.2.2) else (none))) else (none)) else (none)) else (if x7.length < 8796093022208 then (runs_Decode.l0 k x1 (x7 ++ [(⟨bt313.1, wrap64 (bt316.1)⟩ : S53)]) (wrap64 (x8 - (wrap64 (bt316.1)))) bt319.2.1 bt319.2.2) else (none))))) else (some (([] : List Int), bt319.1)))))) else (if x8 > 0 then (some (([] : List Int), 5)) else ((runs_Spread.f k x7 x1).bind fun bt309 => (some (bt309.1, 0)))))
def runs_Decode.f (k : Nat) (a0 : ByteArray) (a1 : Int) : Option (List Int × Int) := if a1 < 0 then (some (([] : List Int), 1)) else (if a1 > 4096 then (some (([] : List Int), 10)) else ((pack_New.f a0).bind fun bt303 => (runs_Decode.l0 k a1 ([] : List (S53)) a1 bt303.1 bt303.2)))
def bonsairef06_May.l0 : Nat → List (S53) → Int → Option (Bool)
  | 0, _, _ => none
  | k + 1, x0, x3 => if x3 < (x0.length : Int) then (if 0 ≤ x3 then (if ((rd_T53 x0 x3).f1) < 1 then (some false) else (if x3 > 0 then (if 0 ≤ (wrap64 (x3 - 1)) then (if (wrap64 (x3 - 1)) < (x0.length : Int) then (if ((rd_T53 x0 (wrap64 (x3 - 1))).f0) = ((rd_T53 x0 x3).f0) then (some false) else (bonsairef06_May.l0 k x0 (wrap64 (x3 + 1)))) else (none)) else (none)) else (bonsairef06_May.l0 k x0 (wrap64 (x3 + 1))))) else (none)) else (some true)
def bonsairef06_May.f (k : Nat) (l0 : List (S53)) : Option (Bool) := bonsairef06_May.l0 k l0 0
end Go.Proofs.Ytbgjoiccehiglaa.Print
end
section
namespace Go.Proofs.Ytbgjoiccehiglaa.Print
open Go.RowKit Go.Proofs.YtbgjoiccehiglaaW.PrintWords Go.Proofs.YtbgjoiccehiglaaW.PrintLast Go.Proofs.YtbgjoiccehiglaaW.PrintMore
attribute [local go_sem] max2_int min2_int max_two min_two max_three min_three max_four min_four
set_option linter.unusedVariables false
set_option linter.unusedSimpArgs false
mutual
def bonsairef06_Spread.j0 : Nat → List (S53) → Int → Bool → Option (List Int × Bool)
  | 0, _, _, _ => none
  | k + 1, x0, x1, x15 => if x15 = true then (some (([] : List Int), false)) else (bonsairef06_Spread.l0 k x0 x1 ([] : List Int) 0)
def bonsairef06_Spread.l0 : Nat → List (S53) → Int → List Int → Int → Option (List Int × Bool)
  | 0, _, _, _, _ => none
  | k + 1, x0, x1, x6, x7 => if x7 < (x0.length : Int) then (if 0 ≤ x7 then (if ((rd_T53 x0 x7).f1) > (wrap64 (x1 - (x6.length : Int))) then (some (([] : List Int), false)) else (bonsairef06_Spread.l1 k x0 x1 x6 x7 0)) else (none)) else (some (x6, true))
def bonsairef06_Spread.l1 : Nat → List (S53) → Int → List Int → Int → Int → Option (List Int × Bool)
  | 0, _, _, _, _, _ => none
  | k + 1, x0, x1, x6, x7, x8 => if 0 ≤ x7 then (if x7 < (x0.length : Int) then (if x8 < ((rd_T53 x0 x7).f1) then (if x6.length < 17592186044416 then (bonsairef06_Spread.l1 k x0 x1 (x6 ++ [(rd_T53 x0 x7).f0]) x7 (wrap64 (x8 + 1))) else (none)) else (bonsairef06_Spread.l0 k x0 x1 x6 (wrap64 (x7 + 1)))) else (none)) else (none)
end
def bonsairef06_Spread.f (k : Nat) (l0 : List (S53)) (a1 : Int) : Option (List Int × Bool) := (bonsairef06_May.f k l0).bind fun t384 => (if t384 = true then (bonsairef06_Spread.j0 k l0 a1 (decide (a1 < 0))) else (bonsairef06_Spread.j0 k l0 a1 true))
end Go.Proofs.Ytbgjoiccehiglaa.Print
end
namespace Go.Proofs.Ytbgjoiccehiglaa.Print
end Go.Proofs.Ytbgjoiccehiglaa.Print
section
namespace Go.Proofs.Ytbgjoiccehiglaa.LibW
open Go.RowKit Go.Proofs.Ytbgjoiccehiglaa.Print Go.Proofs.YtbgjoiccehiglaaW.PrintWords Go.Proofs.YtbgjoiccehiglaaW.PrintLast Go.Proofs.YtbgjoiccehiglaaW.PrintMore Go.Proofs.Ytbgjoiccehiglaa.LibU Go.Proofs.Ytbgjoiccehiglaa.LibV Go.Proofs.Ytbgjoiccehiglaa.LibC Go.Proofs.Ytbgjoiccehiglaa.LibE Go.Proofs.Ytbgjoiccehiglaa.LibG
theorem rd_at (l : List Int) (i : Nat) (h : i < l.length) : rd l (i : Int) = l[i] := by simp [rd, List.getD_eq_getElem?_getD, h]
theorem rd53_at (l : List S53) (i : Nat) (h : i < l.length) : rd_T53 l (i : Int) = l[i] := by simp [rd_T53, List.getD_eq_getElem?_getD, h]
theorem may_same (rs : List S53) (hl : (rs.length : Int) ≤ 1000000000000) : ∀ (k : Nat) (i : Int), 0 ≤ i → runs_May.l0 k rs rs (rs.length : Int) i = bonsairef06_May.l0 k rs i
  | 0, _, _ => rfl
  | k + 1, i, h0 => by
    unfold runs_May.l0 bonsairef06_May.l0
    by_cases hi : i < (rs.length : Int)
    · rw [if_pos hi, if_pos hi, if_pos h0, if_pos hi, if_pos h0, w64 (n := i + 1) (by omega) (by omega), may_same rs hl k (i + 1) (by omega)]
    · rw [if_neg hi, if_neg hi]
theorem may_iff (rs : List S53) : MayR rs ↔ (∀ (i : Nat) (h : i < rs.length), 1 ≤ rs[i].f1) ∧ ∀ (i : Nat) (h : i + 1 < rs.length), rs[i].f0 ≠ rs[i + 1].f0 := by
  constructor
  · intro h
    induction h with
    | nil => exact ⟨fun i h => absurd h (by simp), fun i h => absurd h (by simp)⟩
    | one r h => exact ⟨fun i hi => by obtain rfl : i = 0 := by simpa using hi
                                       exact h, fun i hi => by simp at hi⟩
    | snoc a q r h h1 hne ih =>
      refine ⟨fun i hi => ?_, fun i hi => ?_⟩
      · by_cases hc : i < (a ++ [q]).length
        · rw [List.getElem_append_left hc]; exact ih.1 i hc
        · rw [List.getElem_append_right (by omega)]; simpa using h1
      · by_cases hc : i + 1 < (a ++ [q]).length
        · rw [List.getElem_append_left (by omega), List.getElem_append_left hc]; exact ih.2 i hc
        · have hz : (a ++ [q]).length = a.length + 1 := by simp
          have hz2 : (a ++ [q] ++ [r]).length = a.length + 2 := by simp
          obtain rfl : i = a.length := by omega
          rw [List.getElem_append_left (by omega), List.getElem_append_right (by omega)]
          simpa using hne
  · obtain ⟨n, hn⟩ : ∃ n, n = rs.length := ⟨_, rfl⟩
    induction n generalizing rs with
    | zero => intro _; rw [List.length_eq_zero_iff.mp hn.symm]; exact .nil
    | succ n ih =>
      rintro ⟨h1, h2⟩
      rcases snoc_cases rs with rfl | ⟨b, r, rfl⟩
      · exact .nil
      · have hz : (b ++ [r]).length = b.length + 1 := by simp
        rcases snoc_cases b with rfl | ⟨a, q, rfl⟩
        · exact .one r (by have := h1 0 (by simp); simpa using this)
        · have hz3 : (a ++ [q]).length = a.length + 1 := by simp
          refine .snoc a q r (ih _ (by omega) ⟨fun i hi => ?_, fun i hi => ?_⟩) ?_ ?_
          · have := h1 i (by omega)
            rwa [List.getElem_append_left (by omega)] at this
          · have := h2 i (by omega)
            rwa [List.getElem_append_left (by omega), List.getElem_append_left (bs := [r]) hi] at this
          · have := h1 (a ++ [q]).length (by omega)
            rw [List.getElem_append_right (by omega)] at this
            simpa using this
          · have := h2 a.length (by omega)
            rw [List.getElem_append_left (by omega), List.getElem_append_right (by omega)] at this
            simpa using this
theorem may_l (rs : List S53) (hl : (rs.length : Int) ≤ 1000000000000) : ∀ (d k i : Nat), i + d = rs.length → d + 1 ≤ k → ((∀ (j : Nat) (h : j < rs.length), j < i → 1 ≤ rs[j].f1) ∧ ∀ (j : Nat) (h : j + 1 < rs.length), j + 1 < i → rs[j].f0 ≠ rs[j + 1].f0) →
    ∃ b, bonsairef06_May.l0 k rs (i : Int) = some b ∧ (b = true ↔ MayR rs)
  | 0, k, i, hd, hk, hm => by
    obtain ⟨k, rfl⟩ : ∃ k', k = k' + 1 := ⟨k - 1, by omega⟩
    unfold bonsairef06_May.l0
    rw [if_neg (by omega)]
    exact ⟨true, rfl, by simp only [true_iff]; exact (may_iff rs).mpr ⟨fun j h => hm.1 j h (by omega), fun j h => hm.2 j h (by omega)⟩⟩
  | d + 1, k, i, hd, hk, hm => by
    obtain ⟨k, rfl⟩ : ∃ k', k = k' + 1 := ⟨k - 1, by omega⟩
    have hi : i < rs.length := by omega
    unfold bonsairef06_May.l0
    rw [if_pos (by omega), if_pos (by omega), rd53_at rs i hi]
    by_cases h1 : rs[i].f1 < 1
    · rw [if_pos h1]
      exact ⟨false, rfl, by simp only [Bool.false_eq_true, false_iff]; intro h; have := ((may_iff rs).mp h).1 i hi; omega⟩
    · rw [if_neg h1, w64 (n := (i : Int) + 1) (by omega) (by omega)]
      by_cases h0 : (i : Int) > 0
      · rw [if_pos h0, w64 (n := (i : Int) - 1) (by omega) (by omega), if_pos (by omega), if_pos (by omega), show (i : Int) - 1 = ((i - 1 : Nat) : Int) by omega, rd53_at rs (i - 1) (by omega)]
        by_cases h2 : rs[i - 1].f0 = rs[i].f0
        · rw [if_pos h2]
          refine ⟨false, rfl, ?_⟩
          simp only [Bool.false_eq_true, false_iff]
          intro h
          have := ((may_iff rs).mp h).2 (i - 1) (by omega)
          simp only [show i - 1 + 1 = i by omega] at this
          exact this h2
        · rw [if_neg h2, show (i : Int) + 1 = ((i + 1 : Nat) : Int) by omega]
          refine may_l rs hl d k (i + 1) (by omega) (by omega) ⟨fun j h hj => ?_, fun j h hj => ?_⟩
          · by_cases hji : j = i
            · subst hji; omega
            · exact hm.1 j h (by omega)
          · by_cases hji : j + 1 = i
            · subst hji; simpa using h2
            · exact hm.2 j h (by omega)
      · rw [if_neg h0, show (i : Int) + 1 = ((i + 1 : Nat) : Int) by omega]
        refine may_l rs hl d k (i + 1) (by omega) (by omega) ⟨fun j h hj => ?_, fun j h hj => ?_⟩
        · obtain rfl : j = i := by omega
          omega
        · omega
theorem may_some (rs : List S53) (hl : (rs.length : Int) ≤ 1000000000000) (k : Nat) (hk : rs.length + 1 ≤ k) : ∃ b, runs_May.f k rs = some b ∧ bonsairef06_May.f k rs = some b ∧ (b = true ↔ MayR rs) := by
  obtain ⟨b, h1, h2⟩ := may_l rs hl rs.length k 0 (by omega) hk ⟨fun j _ h => absurd h (by omega), fun j _ h => absurd h (by omega)⟩
  exact ⟨b, (may_same rs hl k 0 (Int.le_refl 0)).trans h1, h1, h2⟩
def sL (most : Int) : List S53 → List Int → List Int × Bool
  | [], out => (out, true)
  | r :: rs, out => if r.f1 > most - out.length then ([], false) else sL most rs (out ++ List.replicate r.f1.toNat r.f0)
theorem sL_is (most : Int) : ∀ (rs : List S53) (out : List Int), (∀ r ∈ rs, 0 ≤ r.f1) → (out.length : Int) ≤ most → sL most rs out = if ((out ++ spread rs).length : Int) ≤ most then (out ++ spread rs, true) else ([], false)
  | [], out, _, ho => by simp [sL, spread, ho]
  | r :: rs, out, hr, ho => by
    have h0 := hr r List.mem_cons_self
    have hsp : spread (r :: rs) = List.replicate r.f1.toNat r.f0 ++ spread rs := by simp [spread]
    unfold sL
    by_cases h : r.f1 > most - out.length
    · rw [if_pos h, if_neg]
      rw [hsp, List.length_append, List.length_append, List.length_replicate]
      omega
    · rw [if_neg h, sL_is most rs _ (fun r hr' => hr r (List.mem_cons_of_mem _ hr')) (by rw [List.length_append, List.length_replicate]; omega), hsp, List.append_assoc]
theorem drop_at (l : List S53) (i : Nat) (h : i < l.length) : l.drop i = l[i] :: l.drop (i + 1) := List.drop_eq_getElem_cons h
theorem spread_l (rs : List S53) (most : Int) (hl : (rs.length : Int) ≤ 1000000000000) (hm : most ≤ 1000000) (hr : ∀ r ∈ rs, 0 ≤ r.f1) : ∀ (d k i : Nat) (out : List Int), i + d = rs.length → d + 1 ≤ k → (out.length : Int) ≤ most →
    runs_Spread.l0 k most out rs (rs.length : Int) (i : Int) = some (sL most (rs.drop i) out)
  | 0, k, i, out, hd, hk, ho => by
    obtain ⟨k, rfl⟩ : ∃ k', k = k' + 1 := ⟨k - 1, by omega⟩
    unfold runs_Spread.l0
    rw [if_neg (by omega), List.drop_eq_nil_of_le (by omega)]
    rfl
  | d + 1, k, i, out, hd, hk, ho => by
    obtain ⟨k, rfl⟩ : ∃ k', k = k' + 1 := ⟨k - 1, by omega⟩
    have hi : i < rs.length := by omega
    have h0 := hr rs[i] (List.getElem_mem hi)
    unfold runs_Spread.l0
    rw [if_pos (by omega), if_pos (by omega), if_pos (by omega), rd53_at rs i hi, drop_at rs i hi, w64 (n := most - out.length) (by omega) (by omega), w64 (n := (i : Int) + 1) (by omega) (by omega)]
    unfold sL
    by_cases h : rs[i].f1 > most - out.length
    · rw [if_pos h, if_pos h]
    · rw [if_neg h, if_neg h]
      unfold slices_Repeat_uint64_uint64.f
      rw [if_pos (by simp), if_pos (by omega)]
      simp only [Option.bind_some, List.length_replicate]
      rw [if_pos (by omega), show rd [rs[i].f0] 0 = rs[i].f0 from rfl, show (i : Int) + 1 = ((i + 1 : Nat) : Int) by omega]
      exact spread_l rs most hl hm hr d k (i + 1) _ (by omega) (by omega) (by rw [List.length_append, List.length_replicate]; omega)
theorem rep_add (n : Nat) (x : Int) (out : List Int) : out ++ [x] ++ List.replicate n x = out ++ List.replicate (n + 1) x := by
  rw [List.append_assoc, List.replicate_succ]; rfl
theorem refSpread_l1 (rs : List S53) (most : Int) (i : Nat) (hi : i < rs.length) (hl : (rs.length : Int) ≤ 1000000000000) (hf : rs[i].f1 ≤ 1000000) : ∀ (d k : Nat) (out : List Int) (j : Int), 0 ≤ j → j + d = rs[i].f1 → d + 1 ≤ k → (out.length : Int) + d ≤ 1000000 →
    bonsairef06_Spread.l1 k rs most out (i : Int) j = bonsairef06_Spread.l0 (k - (d + 1)) rs most (out ++ List.replicate d rs[i].f0) ((i + 1 : Nat) : Int) := by
  intro d
  induction d with
  | zero =>
    intro  k out j h0 hd hk ho
    obtain ⟨k, rfl⟩ : ∃ k', k = k' + 1 := ⟨k - 1, by omega⟩
    unfold bonsairef06_Spread.l1
    rw [if_pos (by omega), if_pos (by omega), rd53_at rs i hi, if_neg (by omega), w64 (by omega) (by omega)]
    simp
  | succ d ih =>
    intro  k out j h0 hd hk ho
    obtain ⟨k, rfl⟩ : ∃ k', k = k' + 1 := ⟨k - 1, by omega⟩
    unfold bonsairef06_Spread.l1
    rw [if_pos (by omega), if_pos (by omega), rd53_at rs i hi, if_pos (by omega), if_pos (by omega), w64 (n := j + 1) (by omega) (by omega)]
    rw [ih k _ (j + 1) (by omega) (by omega) (by omega) (by simp; omega), rep_add]
    congr 1
    omega
theorem refSpread_l (rs : List S53) (most : Int) (hl : (rs.length : Int) ≤ 1000000000000) (hm : most ≤ 1000000) (hr : ∀ r ∈ rs, 0 ≤ r.f1) (K : Nat) (hK : 1000002 ≤ K) : ∀ (d k i : Nat) (out : List Int), i + d = rs.length → d * K + 1 ≤ k → (out.length : Int) ≤ most →
    bonsairef06_Spread.l0 k rs most out (i : Int) = some (sL most (rs.drop i) out) := by
  intro d
  induction d with
  | zero =>
    intro  k i out hd hk ho
    obtain ⟨k, rfl⟩ : ∃ k', k = k' + 1 := ⟨k - 1, by omega⟩
    unfold bonsairef06_Spread.l0
    rw [if_neg (by omega), List.drop_eq_nil_of_le (by omega)]
    rfl
  | succ d ih =>
    intro  k i out hd hk ho
    obtain ⟨k, rfl⟩ : ∃ k', k = k' + 1 := ⟨k - 1, by omega⟩
    rw [Nat.succ_mul] at hk
    generalize d * K = D at hk ih
    have hi : i < rs.length := by omega
    have h0 := hr rs[i] (List.getElem_mem hi)
    unfold bonsairef06_Spread.l0
    rw [if_pos (by omega), if_pos (by omega), rd53_at rs i hi, drop_at rs i hi, w64 (n := most - out.length) (by omega) (by omega)]
    unfold sL
    by_cases h : rs[i].f1 > most - out.length
    · rw [if_pos h, if_pos h]
    · rw [if_neg h, if_neg h, refSpread_l1 rs most i hi hl (by omega) rs[i].f1.toNat k out 0 (by omega) (by omega) (by omega) (by omega)]
      exact ih _ (i + 1) _ (by omega) (by omega) (by rw [List.length_append, List.length_replicate]; omega)
noncomputable def spreadTo (rs : List S53) (most : Int) : List Int × Bool := by
  classical exact if MayR rs ∧ ((spread rs).length : Int) ≤ most then (spread rs, true) else ([], false)
theorem MayR.pos {rs : List S53} (h : MayR rs) : ∀ r ∈ rs, 1 ≤ r.f1 := fun r hr => by
  obtain ⟨i, hi, rfl⟩ := List.getElem_of_mem hr
  exact ((may_iff rs).mp h).1 i hi
theorem spread_some (rs : List S53) (most : Int) (hl : (rs.length : Int) ≤ 1000000000000) (hm : most ≤ 1000000) (hm0 : -9223372036854775808 ≤ most) (k : Nat) (K : Nat) (hK : 1000002 ≤ K) (hk : rs.length * K + rs.length + 3 ≤ k) :
    runs_Spread.f k rs most = some (spreadTo rs most) ∧ bonsairef06_Spread.f k rs most = some (spreadTo rs most) := by
  obtain ⟨k, rfl⟩ : ∃ m, k = m + 1 := ⟨k - 1, by omega⟩
  obtain ⟨b, h1, h2, h3⟩ := may_some rs hl (k + 1) (by omega)
  unfold runs_Spread.f bonsairef06_Spread.f
  rw [h1, h2]
  simp only [Option.bind_some]
  have no : ¬ (MayR rs ∧ ((spread rs).length : Int) ≤ most) → spreadTo rs most = ([], false) := fun h => by unfold spreadTo; rw [if_neg h]
  cases b with
  | false =>
    have hn : ¬ MayR rs := fun h => by have := h3.mpr h; cases this
    simp only [Bool.false_eq_true, if_false, runs_Spread.j0, bonsairef06_Spread.j0, if_true]
    rw [no (fun h => hn h.1)]
    exact ⟨rfl, rfl⟩
  | true =>
    have hmay := h3.mp rfl
    have hr : ∀ r ∈ rs, 0 ≤ r.f1 := fun r hr => by have := MayR.pos hmay r hr; omega
    simp only [if_true, runs_Spread.j0, bonsairef06_Spread.j0]
    by_cases hneg : most < 0
    · rw [if_pos (by simpa using hneg), if_pos (by simpa using hneg), no (fun h => by have := h.2; omega)]
      exact ⟨rfl, rfl⟩
    · rw [if_neg (by simpa using hneg), if_neg (by simpa using hneg)]
      have e1 := spread_l rs most hl hm hr rs.length k 0 [] (by omega) (by omega) (by simp; omega)
      have e2 := refSpread_l rs most hl hm hr K hK rs.length k 0 [] (by omega) (by omega) (by simp; omega)
      simp only [Int.natCast_zero, List.drop_zero] at e1 e2
      rw [e1, e2, sL_is most rs [] hr (by simp; omega), List.nil_append]
      unfold spreadTo
      by_cases hle : ((spread rs).length : Int) ≤ most
      · rw [if_pos hle, if_pos ⟨hmay, hle⟩]; exact ⟨rfl, rfl⟩
      · rw [if_neg hle, if_neg (fun h => hle h.2)]; exact ⟨rfl, rfl⟩
noncomputable def put (x : Int) : ByteArray := strOfNums (putL 9 x)
theorem put_size (x : Int) : 1 ≤ (put x).size ∧ (put x).size ≤ 10 := by
  have := putL_length 9 x
  unfold put
  rw [strOfNums_size]
  omega
noncomputable def encR : List S53 → ByteArray
  | [] => noText
  | r :: rs => (put r.f0 ++ put r.f1) ++ encR rs
theorem no_app (a : ByteArray) : noText ++ a = a := by
  apply ByteArray.ext
  simp [noText]
theorem app_no (a : ByteArray) : a ++ noText = a := by
  apply ByteArray.ext
  simp [noText]
theorem put_both (x : Int) (h0 : 0 ≤ x) (h1 : x < 18446744073709551616) (k : Nat) (hk : 10 ≤ k) : pack_Put.f k x = some (put x) ∧ bonsairef03_Put.f k x = some (put x) := put_some x h0 h1 k hk
def Wf (rs : List S53) : Prop := ∀ r ∈ rs, (0 ≤ r.f0 ∧ r.f0 < 18446744073709551616) ∧ 0 ≤ r.f1 ∧ r.f1 < 9223372036854775808
theorem wf_runs {l : List Int} (hl : (l.length : Int) ≤ 1000000000000) (h : ∀ x ∈ l, 0 ≤ x ∧ x < 18446744073709551616) : Wf (runs l) := fun r hr => by
  have hp := MayR.pos (may_runs l) r hr
  obtain ⟨a, b, hab⟩ := List.append_of_mem hr
  have hs := spread_runs l
  rw [hab] at hs
  have hsp : spread (a ++ r :: b) = spread a ++ (List.replicate r.f1.toNat r.f0 ++ spread b) := by simp [spread]
  rw [hsp] at hs
  have hlen := congrArg List.length hs
  simp only [List.length_append, List.length_replicate] at hlen
  have hmem : r.f0 ∈ l := by
    rw [← hs]
    refine List.mem_append_right _ (List.mem_append_left _ ?_)
    rw [List.mem_replicate]
    exact ⟨by omega, rfl⟩
  exact ⟨h _ hmem, by omega, by omega⟩
end Go.Proofs.Ytbgjoiccehiglaa.LibW
end
section
namespace Go.Proofs.Ytbgjoiccehiglaa.Print
open Go.RowKit Go.Proofs.YtbgjoiccehiglaaW.PrintWords Go.Proofs.YtbgjoiccehiglaaW.PrintLast Go.Proofs.YtbgjoiccehiglaaW.PrintMore
attribute [local go_sem] max2_int min2_int max_two min_two max_three min_three max_four min_four
set_option linter.unusedVariables false
set_option linter.unusedSimpArgs false
mutual
def bonsairef06_Decode.l0 : Nat → Int → List Int → ByteArray → Int → Int → Option (List Int × Int)
  | 0, _, _, _, _, _ => none
  | k + 1, x1, x7, x433000, x433001, x433002 => (bonsairef03_Reader_Left.f x433000 x433001 x433002).bind fun bt433 => (if bt433.1 > 0 then ((bonsairef03_Reader_Num.f k bt433.2.1 bt433.2.2.1 bt433.2.2.2).bind fun bt437 => ((bonsairef03_Reader_Num.f k bt437.2.1 bt437.2.2.1 bt437.2.2.2).bind fun bt441 => (if bt441.2.2.2 = 0 then (if bt441.1 = 0 then (bonsairef06_Decode.j1 k x1 x7 bt437.1 bt441.1 true bt441.2.1 bt441.2.2.1 bt441.2.2.2) else (if bt441.1 > (IntKind.u64.wrap (wrap64 (x1 - (x7.length : Int)))) then (bonsairef06_Decode.j1 k x1 x7 bt437.1 bt441.1 true bt441.2.1 bt441.2.2.1 bt441.2.2.2) else (if (x7.length : Int) > 0 then (if 0 ≤ (wrap64 ((x7.length : Int) - 1)) then (if (wrap64 ((x7.length : Int) - 1)) < (x7.length : Int) then (bonsairef06_Decode.j1 k x1 x7 bt437.1 bt441.1 ((rd x7 (wrap64 ((x7.length : Int) - 1))) == bt437.1) bt441.2.1 bt441.2.2.1 bt441.2.2.2) else (none)) else (none)) else (bonsairef06_Decode.j1 k x1 x7 bt437.1 bt441.1 false bt441.2.1 bt441.2.2.1 bt441.2.2.2)))) else (some (([] : List Int), bt441.2.2.2))))) else (if (x7.length : Int) < x1 then (some (([] : List Int), 5)) else (some (x7, 0))))
def bonsairef06_Decode.j1 : Nat → Int → List Int → Int → Int → Bool → ByteArray → Int → Int → Option (List Int × Int)
  | 0, _, _, _, _, _, _, _, _ => none
  | k + 1, x1, x7, x8, x9, x59, x433000, x433001, x433002 => if x59 = true then (some (([] : List Int), 5)) else (bonsairef06_Decode.l1 k x1 x7 x8 x9 0 x433000 x433001 x433002)
def bonsairef06_Decode.l1 : Nat → Int → List Int → Int → Int → Int → ByteArray → Int → Int → Option (List Int × Int)
  | 0, _, _, _, _, _, _, _, _ => none
  | k + 1, x1, x7, x8, x9, x10, x433000, x433001, x433002 => if x10 < x9 then (if x7.length < 17592186044416 then (bonsairef06_Decode.l1 k x1 (x7 ++ [x8]) x8 x9 (IntKind.u64.wrap (x10 + 1)) x433000 x433001 x433002) else (none)) else (bonsairef06_Decode.l0 k x1 x7 x433000 x433001 x433002)
end
end Go.Proofs.Ytbgjoiccehiglaa.Print
end
section
namespace Go.Proofs.Ytbgjoiccehiglaa.LibX
open Go.RowKit Go.Proofs.Ytbgjoiccehiglaa.Print Go.Proofs.YtbgjoiccehiglaaW.PrintWords Go.Proofs.YtbgjoiccehiglaaW.PrintLast Go.Proofs.YtbgjoiccehiglaaW.PrintMore Go.Proofs.Ytbgjoiccehiglaa.LibU Go.Proofs.Ytbgjoiccehiglaa.LibV Go.Proofs.Ytbgjoiccehiglaa.LibW Go.Proofs.Ytbgjoiccehiglaa.LibC Go.Proofs.Ytbgjoiccehiglaa.LibD Go.Proofs.Ytbgjoiccehiglaa.LibE Go.Proofs.Ytbgjoiccehiglaa.LibG
def numT (s : ByteArray) : Int × ByteArray × Int := if (numL s 10 0 0).1 = 0 then ((numL s 10 0 0).2.1, s.extract (numL s 10 0 0).2.2.toNat s.size, 0) else (0, s, (numL s 10 0 0).1)
theorem num_numT (s : ByteArray) (hs : s.size ≤ 9223372036854775000) : pack_Reader_Num.f s 0 = some (numT s) := by
  unfold pack_Reader_Num.f numT
  rw [if_pos hs, if_pos rfl]
  split <;> rfl
theorem num_err (s : ByteArray) (hs : s.size ≤ 9223372036854775000) {e : Int} (he : e ≠ 0) : pack_Reader_Num.f s e = some (0, s, e) := by
  unfold pack_Reader_Num.f
  rw [if_pos hs, if_neg he]
theorem numT_size (s : ByteArray) : (numT s).2.1.size ≤ s.size := by
  unfold numT
  split
  · simp only [ByteArray.size_extract]; omega
  · exact Nat.le_refl _
theorem numT_range (s : ByteArray) (hs : s.size ≤ 9223372036854775000) : 0 ≤ (numT s).1 ∧ (numT s).1 < 18446744073709551616 ∧ ((numT s).2.2 = 0 → (numT s).2.1.size < s.size) := by
  obtain ⟨h1, h2⟩ := numL_is s 10 0 0 (by omega) (by omega) (by omega) (by omega) (by decide)
  unfold numT
  split
  · rename_i h
    have := h1 h
    exact ⟨this.1, this.2.1, fun _ => by simp only [ByteArray.size_extract]; omega⟩
  · rename_i h
    exact ⟨Int.le_refl _, by show (0 : Int) < _; omega, fun h' => absurd h' h⟩
theorem numT_put (x : Int) (h0 : 0 ≤ x) (h1 : x < 18446744073709551616) (t : ByteArray) : numT (put x ++ t) = (x, t, 0) := by
  have h := put_read x h0 h1 t
  unfold numT put
  rw [h, if_pos rfl]
  have := app_cut (strOfNums (putL 9 x)) t
  rw [strOfNums_size] at this
  simp only [Int.toNat_natCast]
  rw [this]
theorem numT_was (s : ByteArray) (hs : s.size ≤ 9223372036854775000) (h : (numT s).2.2 = 0) : s = put (numT s).1 ++ (numT s).2.1 := by
  obtain ⟨h1, h2⟩ := numL_is s 10 0 0 (by omega) (by omega) (by omega) (by omega) (by decide)
  have he : (numL s 10 0 0).1 = 0 := by
    unfold numT at h
    split at h
    · assumption
    · exact h
  have := h1 he
  have h3 := read_put s he
  have h4 := take_drop s (numL s 10 0 0).2.2.toNat (by omega)
  unfold numT put
  rw [if_pos he]
  simp only
  rw [← h3, h4]
theorem noText_of {s : ByteArray} (h : s.size = 0) : s = noText := by
  refine ba_ext (by rw [h]; rfl) (fun i h0 h1 => by omega)
def lastIs (rs : List S53) (v : Int) : Prop := ∃ a r, rs = a ++ [r] ∧ r.f0 = v
open Classical in
noncomputable def dR : Nat → ByteArray → List S53 → Int → List S53 × Int
  | 0, _, rs, _ => (rs, 99)
  | d + 1, s, rs, left =>
    if s.size = 0 then (if left > 0 then ([], 5) else (rs, 0)) else
    if (numT s).2.2 ≠ 0 then ([], (numT s).2.2) else
    if (numT (numT s).2.1).2.2 ≠ 0 then ([], (numT (numT s).2.1).2.2) else
    if (numT (numT s).2.1).1 = 0 ∨ (numT (numT s).2.1).1 > left ∨ lastIs rs (numT s).1 then ([], 5) else
    dR d (numT (numT s).2.1).2.1 (rs ++ [(⟨(numT s).1, (numT (numT s).2.1).1⟩ : S53)]) (left - (numT (numT s).2.1).1)
def fin (p : List S53 × Int) : List Int × Int := if p.2 = 0 then (spread p.1, 0) else ([], p.2)
theorem may_push {rs : List S53} (h : MayR rs) {v c : Int} (hc : 1 ≤ c) (hl : ¬ lastIs rs v) : MayR (rs ++ [(⟨v, c⟩ : S53)]) := by
  rcases snoc_cases rs with rfl | ⟨a, q, rfl⟩
  · exact .one _ hc
  · exact .snoc _ _ _ h hc (fun he => hl ⟨a, q, rfl, he⟩)
theorem may_notLast {rs : List S53} {r : S53} (h : MayR (rs ++ [r])) : ¬ lastIs rs r.f0 := by
  rintro ⟨a, q, rfl, he⟩
  exact h.ne he
theorem may_front : ∀ {b a : List S53}, MayR (a ++ b) → MayR a := fun {b} => by
  induction b with
  | nil => intro a h; simpa using h
  | cons x b ih =>
    intro a h
    have := ih (a := a ++ [x]) (by simpa using h)
    exact this.init
theorem spread_cons (r : S53) (b : List S53) : spread (r :: b) = List.replicate r.f1.toNat r.f0 ++ spread b := by simp [spread]
theorem last_spread {rs : List S53} (h : MayR rs) {v : Int} : lastIs rs v ↔ ∃ a, spread rs = a ++ [v] := by
  rcases snoc_cases rs with rfl | ⟨b, r, rfl⟩
  · constructor
    · rintro ⟨a, q, he, _⟩; simp at he
    · rintro ⟨a, ha⟩; simp [spread] at ha
  · have h1 := h.last
    have hs : spread (b ++ [r]) = (spread b ++ List.replicate (r.f1.toNat - 1) r.f0) ++ [r.f0] := by
      rw [spread_snoc, List.append_assoc, ← List.replicate_succ', show r.f1.toNat - 1 + 1 = r.f1.toNat by omega]
    constructor
    · rintro ⟨a, q, he, hv⟩
      obtain ⟨rfl, rfl⟩ := snoc_inj he
      exact ⟨_, hv ▸ hs⟩
    · rintro ⟨a, ha⟩
      rw [hs] at ha
      exact ⟨b, r, rfl, (snoc_inj ha).2⟩
theorem w64' {x : Int} (h0 : 0 ≤ x) (h1 : x < 18446744073709551616) : IntKind.u64.wrap x = x := pack_wraps_u64 x h0 h1
theorem dec_l (n : Int) (hn0 : 0 ≤ n) (hn : n ≤ 4096) (K : Nat) (hK : 1000002 ≤ K) : ∀ (d k : Nat) (s : ByteArray) (rs : List S53) (left : Int), s.size < d → s.size ≤ 9223372036854775000 → d * K + 5000 * K + 5000 ≤ k → MayR rs → 0 ≤ left → left + (spread rs).length = n →
    runs_Decode.l0 k n rs left s 0 = some (fin (dR d s rs left)) := by
  intro d
  induction d with
  | zero => intro k s rs left hd; omega
  | succ d ih =>
    intro k s rs left hd hs hk hm h0 hl
    obtain ⟨k, rfl⟩ : ∃ m, k = m + 1 := ⟨k - 1, by omega⟩
    rw [Nat.succ_mul] at hk
    have hrl := len_spread hm
    have hmul : rs.length * K ≤ 4096 * K := Nat.mul_le_mul_right K (by omega)
    unfold runs_Decode.l0 dR
    simp only [pack_Reader_Left.f, Option.bind_some]
    by_cases hz : s.size = 0
    · rw [if_neg (by omega), if_pos hz]
      by_cases h1 : left > 0
      · rw [if_pos h1, if_pos h1]; rfl
      · rw [if_neg h1, if_neg h1, (spread_some rs n (by omega) (by omega) (by omega) k K hK (by omega)).1]
        unfold spreadTo fin
        rw [if_pos ⟨hm, by omega⟩]
        rfl
    · have r1 := numT_range s hs
      have z1 := numT_size s
      have r2 := numT_range (numT s).2.1 (by omega)
      have z2 := numT_size (numT s).2.1
      rw [if_pos (by omega), if_neg hz, num_numT s hs]
      simp only [Option.bind_some]
      by_cases e1 : (numT s).2.2 = 0
      · rw [if_neg (c := _ ≠ _) (fun h => h e1), e1, num_numT _ (by omega)]
        simp only [Option.bind_some, pack_Reader_Err.f]
        by_cases e2 : (numT (numT s).2.1).2.2 = 0
        · rw [if_pos e2, if_neg (c := _ ≠ _) (fun h => h e2), e2]
          have hlast : lastIs rs (numT s).1 ↔ 0 < rs.length ∧ (rd_T53 rs ((rs.length : Int) - 1)).f0 = (numT s).1 := by
            rcases snoc_cases rs with rfl | ⟨a, q, rfl⟩
            · exact ⟨fun ⟨a, q, he, _⟩ => by simp at he, fun h => by simp at h⟩
            · have : rd_T53 (a ++ [q]) (((a ++ [q]).length : Int) - 1) = q := by
                rw [show (((a ++ [q]).length : Int) - 1) = (a.length : Int) by simp]; exact rd53_last a q
              rw [this]
              exact ⟨fun ⟨b, r, he, hv⟩ => by obtain ⟨_, rfl⟩ := snoc_inj he; exact ⟨by simp, hv⟩, fun h => ⟨a, q, rfl, h.2⟩⟩
          rw [w64' (x := left) h0 (by omega), w64 (n := (rs.length : Int) - 1) (by omega) (by omega)]
          by_cases c0 : (numT (numT s).2.1).1 = 0
          · rw [if_pos c0, if_pos (.inl c0)]; rfl
          · rw [if_neg c0]
            by_cases c1 : (numT (numT s).2.1).1 > left
            · rw [if_pos c1, if_pos (.inr (.inl c1))]; rfl
            · rw [if_neg c1, w64 (n := (numT (numT s).2.1).1) (by omega) (by omega), w64 (n := left - (numT (numT s).2.1).1) (by omega) (by omega)]
              by_cases c2 : lastIs rs (numT s).1
              · have := hlast.mp c2
                rw [if_pos (by omega), if_pos (by omega), if_pos (by omega), if_pos this.2, if_pos (.inr (.inr c2))]; rfl
              · rw [if_neg (c := _ ∨ _) (fun h => h.elim c0 (fun h => h.elim c1 c2))]
                have go := ih k (numT (numT s).2.1).2.1 (rs ++ [(⟨(numT s).1, (numT (numT s).2.1).1⟩ : S53)]) (left - (numT (numT s).2.1).1) (by have := r1.2.2 e1; omega) (by omega) (by omega) (may_push hm (by omega) c2) (by omega)
                  (by rw [spread_snoc, List.length_append, List.length_replicate]; simp only; omega)
                by_cases c3 : (rs.length : Int) - 1 ≥ 0
                · rw [if_pos c3, if_pos (by omega), if_pos (by omega), if_neg (fun h => c2 (hlast.mpr ⟨by omega, h⟩)), if_pos (by omega)]
                  exact go
                · rw [if_neg c3, if_pos (by omega)]
                  exact go
        · rw [if_neg e2, if_pos e2]
          unfold fin
          rw [if_neg e2]
      · rw [if_pos e1, num_err _ (by omega) e1]
        simp only [Option.bind_some, pack_Reader_Err.f]
        rw [if_neg e1]
        unfold fin
        rw [if_neg e1]
noncomputable def decTo (s : ByteArray) (n : Int) : List Int × Int := if n < 0 then ([], 1) else if n > 4096 then ([], 10) else fin (dR (s.size + 1) s [] n)
theorem dec_some (s : ByteArray) (hs : s.size ≤ 140737488351232) (n : Int) (K : Nat) (hK : 1000002 ≤ K) (k : Nat) (hk : (s.size + 1) * K + 5000 * K + 5000 ≤ k) : runs_Decode.f k s n = some (decTo s n) := by
  unfold runs_Decode.f decTo
  by_cases h0 : n < 0
  · rw [if_pos h0, if_pos h0]
  · by_cases h1 : n > 4096
    · rw [if_neg h0, if_pos h1, if_neg h0, if_pos h1]
    · rw [if_neg h0, if_neg h1, if_neg h0, if_neg h1]
      simp only [pack_New.f, Option.bind_some]
      exact dec_l n (by omega) (by omega) K hK (s.size + 1) k s [] n (by omega) (by omega) hk .nil (by omega) (by simp [spread])
theorem ref_l1 (n v : Int) (S : ByteArray) (a : Int) : ∀ (d k : Nat) (out : List Int) (c j : Int), 0 ≤ j → j + d = c → c ≤ 1000000 → d + 1 ≤ k → (out.length : Int) + d ≤ 1000000 →
    bonsairef06_Decode.l1 k n out v c j S a 0 = bonsairef06_Decode.l0 (k - (d + 1)) n (out ++ List.replicate d v) S a 0 := by
  intro d
  induction d with
  | zero =>
    intro k out c j h0 hd hc hk ho
    obtain ⟨k, rfl⟩ : ∃ m, k = m + 1 := ⟨k - 1, by omega⟩
    unfold bonsairef06_Decode.l1
    rw [if_neg (by omega)]
    simp
  | succ d ih =>
    intro k out c j h0 hd hc hk ho
    obtain ⟨k, rfl⟩ : ∃ m, k = m + 1 := ⟨k - 1, by omega⟩
    unfold bonsairef06_Decode.l1
    rw [if_pos (by omega), if_pos (by omega), w64' (x := j + 1) (by omega) (by omega), ih k _ c (j + 1) (by omega) (by omega) hc (by omega) (by simp; omega), rep_add]
    congr 1
    omega
theorem refDec_l (n : Int) (hn0 : 0 ≤ n) (hn : n ≤ 4096) (S : ByteArray) (K : Nat) (hK : 1000002 ≤ K) : ∀ (d k : Nat) (s : ByteArray) (a : Int) (rs : List S53) (left : Int), s.size < d → Sim S a s → d * K + K ≤ k → MayR rs → 0 ≤ left → left + (spread rs).length = n →
    bonsairef06_Decode.l0 k n (spread rs) S a 0 = some (fin (dR d s rs left)) := by
  intro d
  induction d with
  | zero => intro k s a rs left hd; omega
  | succ d ih =>
    intro k s a rs left hd hS hk hm h0 hl
    obtain ⟨k, rfl⟩ : ∃ m, k = m + 1 := ⟨k - 1, by omega⟩
    rw [Nat.succ_mul] at hk
    have hsz := hS.size
    have hlo := hS.lo
    have hbig := hS.big
    have hs : s.size ≤ 9223372036854775000 := by omega
    unfold bonsairef06_Decode.l0 dR
    rw [(hS.left 0).2]
    simp only [Option.bind_some]
    by_cases hz : s.size = 0
    · rw [if_neg (by omega), if_pos hz]
      by_cases h1 : left > 0
      · rw [if_pos h1, if_pos (by omega)]; rfl
      · rw [if_neg h1, if_neg (by omega)]; rfl
    · have r1 := numT_range s hs
      have z1 := numT_size s
      have r2 := numT_range (numT s).2.1 (by omega)
      have z2 := numT_size (numT s).2.1
      rw [if_pos (by omega), if_neg hz]
      obtain ⟨v, s1, e1', a1, hp, hr, hS1, _, _, _, _, _, hf1⟩ := hS.num 0
      rw [num_numT s hs] at hp
      obtain ⟨hv1, hs1, he1⟩ : (numT s).1 = v ∧ (numT s).2.1 = s1 ∧ (numT s).2.2 = e1' := by
        have := Option.some.inj hp
        rw [this]; exact ⟨rfl, rfl, rfl⟩
      rw [hr k (by omega)]
      simp only [Option.bind_some]
      rw [hs1] at r1 z1 r2 z2
      rw [he1] at r1
      rw [hv1] at r1
      rw [hs1, he1, hv1]
      by_cases e1 : e1' = 0
      · rw [if_neg (c := _ ≠ _) (fun h => h e1), e1]
        obtain ⟨c, s2, e2', a2, hp2, hr2, hS2, _, _, _, _, _, hf2⟩ := hS1.num 0
        rw [num_numT s1 (by omega)] at hp2
        obtain ⟨hv2, hs2, he2⟩ : (numT s1).1 = c ∧ (numT s1).2.1 = s2 ∧ (numT s1).2.2 = e2' := by
          have := Option.some.inj hp2
          rw [this]; exact ⟨rfl, rfl, rfl⟩
        rw [hr2 k (by omega)]
        simp only [Option.bind_some]
        rw [hs2, hv2, he2] at r2
        rw [hs2] at z2
        rw [hs2, he2, hv2]
        by_cases e2 : e2' = 0
        · rw [if_pos e2, if_neg (c := _ ≠ _) (fun h => h e2), e2]
          rw [w64 (n := n - (spread rs).length) (by omega) (by omega), show n - (spread rs).length = left by omega, w64' (x := left) h0 (by omega), w64 (n := ((spread rs).length : Int) - 1) (by omega) (by omega)]
          have hyes : ∀ k' X, X = true → bonsairef06_Decode.j1 (k' + 1) n (spread rs) v c X S a2 0 = some (fin ([], 5)) := by
            rintro k' X rfl
            simp only [bonsairef06_Decode.j1, if_true]; rfl
          obtain ⟨k', rfl⟩ : ∃ m, k = m + 1 := ⟨k - 1, by omega⟩
          by_cases c0 : c = 0
          · rw [if_pos c0, if_pos (.inl c0)]; exact hyes k' _ rfl
          · rw [if_neg c0]
            by_cases c1 : c > left
            · rw [if_pos c1, if_pos (.inr (.inl c1))]; exact hyes k' _ rfl
            · rw [if_neg c1]
              have hno : ∀ X, X = false → ¬ lastIs rs v → bonsairef06_Decode.j1 (k' + 1) n (spread rs) v c X S a2 0 = some (fin (dR d s2 (rs ++ [(⟨v, c⟩ : S53)]) (left - c))) := by
                rintro X rfl c2
                simp only [bonsairef06_Decode.j1, Bool.false_eq_true, if_false]
                rw [ref_l1 n v S a2 c.toNat k' (spread rs) c 0 (by omega) (by omega) (by omega) (by omega) (by omega)]
                have hsp : spread rs ++ List.replicate c.toNat v = spread (rs ++ [(⟨v, c⟩ : S53)]) := (spread_snoc rs ⟨v, c⟩).symm
                rw [hsp]
                exact ih _ s2 a2 _ (left - c) (by have := r1.2.2 e1; omega) hS2 (by omega) (may_push hm (by omega) c2) (by omega) (by rw [← hsp, List.length_append, List.length_replicate]; omega)
              by_cases c2 : lastIs rs v
              · rw [if_pos (c := _ ∨ _) (.inr (.inr c2))]
                obtain ⟨b, hb⟩ := (last_spread hm).mp c2
                have hzl : ((spread rs).length : Int) = b.length + 1 := by rw [hb]; simp
                have hX : rd (spread rs) (((spread rs).length : Int) - 1) = v := by
                  rw [hb, show ((b ++ [v]).length : Int) - 1 = ((b.length : Nat) : Int) by simp, rd_at _ _ (by simp)]
                  simp
                rw [if_pos (by omega), if_pos (by omega), if_pos (by omega), hX]
                exact hyes k' _ (by simp)
              · rw [if_neg (c := _ ∨ _) (fun h => h.elim c0 (fun h => h.elim c1 c2))]
                rcases snoc_cases (spread rs) with he | ⟨b, x, hb⟩
                · rw [if_neg (by rw [he]; simp)]
                  exact hno _ rfl c2
                · have hzl : ((spread rs).length : Int) = b.length + 1 := by rw [hb]; simp
                  rw [if_pos (by omega), if_pos (by omega), if_pos (by omega)]
                  refine hno _ ?_ c2
                  rw [hb, show ((b ++ [x]).length : Int) - 1 = ((b.length : Nat) : Int) by simp, rd_at _ _ (by simp)]
                  simp only [List.getElem_concat_length, beq_eq_false_iff_ne, ne_eq]
                  rintro rfl
                  exact c2 ((last_spread hm).mpr ⟨b, hb⟩)
        · rw [if_neg e2, if_pos e2]
          unfold fin
          rw [if_neg e2]
      · rw [if_pos e1]
        obtain ⟨c, s2, e2', a2, hp2, hr2, hS2, _, _, hk2, _, _, hf2⟩ := hS1.num e1'
        obtain ⟨rfl, rfl, rfl, rfl⟩ := hk2 e1
        rw [hr2 k (by omega)]
        simp only [Option.bind_some]
        rw [if_neg e1]
        unfold fin
        rw [if_neg e1]
theorem dR_enc : ∀ (b : List S53) (d : Nat) (a : List S53) (left : Int), (encR b).size < d → MayR (a ++ b) → Wf b → 0 ≤ left → dR d (encR b) a left = if ((spread b).length : Int) = left then (a ++ b, 0) else ([], 5) := by
  intro b
  induction b with
  | nil =>
    intro d a left hd hm hw h0
    obtain ⟨d, rfl⟩ : ∃ m, d = m + 1 := ⟨d - 1, by omega⟩
    unfold dR
    have hz : (encR []).size = 0 := rfl
    rw [if_pos hz, show spread [] = [] from rfl]
    by_cases h : left > 0
    · rw [if_pos h, if_neg (by simp; omega)]
    · rw [if_neg h, if_pos (by simp; omega), List.append_nil]
  | cons r b ih =>
    intro d a left hd hm hw h0
    obtain ⟨d, rfl⟩ : ∃ m, d = m + 1 := ⟨d - 1, by omega⟩
    have hr := hw r List.mem_cons_self
    have hm' : MayR (a ++ [r] ++ b) := by simpa using hm
    have hm2 := may_front hm'
    have h1 := hm2.last
    have hnl := may_notLast hm2
    have p0 := put_size r.f0
    have p1 := put_size r.f1
    have he : encR (r :: b) = put r.f0 ++ (put r.f1 ++ encR b) := by simp only [encR, ByteArray.append_assoc]
    have hz : (encR (r :: b)).size = (put r.f0).size + ((put r.f1).size + (encR b).size) := by rw [he, ByteArray.size_append, ByteArray.size_append]
    unfold dR
    rw [if_neg (by omega), he, numT_put r.f0 hr.1.1 hr.1.2]
    simp only [ne_eq, not_true_eq_false, if_false]
    rw [numT_put r.f1 hr.2.1 (by omega)]
    simp only [not_true_eq_false, if_false]
    rw [spread_cons, List.length_append, List.length_replicate]
    by_cases hc : r.f1 > left
    · rw [if_pos (.inr (.inl hc)), if_neg (by omega)]
    · rw [if_neg (fun h => h.elim (fun h => by omega) (fun h => h.elim hc hnl))]
      rw [ih d (a ++ [(⟨r.f0, r.f1⟩ : S53)]) (left - r.f1) (by omega) hm' (fun x hx => hw x (List.mem_cons_of_mem _ hx)) (by omega)]
      by_cases hq : ((spread b).length : Int) = left - r.f1
      · rw [if_pos hq, if_pos (by omega)]
        simp
      · rw [if_neg hq, if_neg (by omega)]
theorem dR_was : ∀ (d : Nat) (s : ByteArray) (a : List S53) (left : Int), s.size ≤ 9223372036854775000 → MayR a → 0 ≤ left → left ≤ 4096 → (dR d s a left).2 = 0 →
    ∃ b, (dR d s a left).1 = a ++ b ∧ s = encR b ∧ MayR (a ++ b) ∧ ((spread b).length : Int) = left ∧ Wf b := by
  intro d
  induction d with
  | zero => intro s a left _ _ _ _ h; exact absurd h (by simp [dR])
  | succ d ih =>
    intro s a left hs hm h0 h4 h
    unfold dR at h ⊢
    have r1 := numT_range s hs
    have z1 := numT_size s
    have r2 := numT_range (numT s).2.1 (by omega)
    have z2 := numT_size (numT s).2.1
    by_cases hz : s.size = 0
    · rw [if_pos hz] at h ⊢
      by_cases hp : left > 0
      · rw [if_pos hp] at h; exact absurd h (by simp)
      · rw [if_neg hp]
        exact ⟨[], by simp, noText_of hz, by simpa using hm, by simp [spread]; omega, fun r hr => by simp at hr⟩
    · rw [if_neg hz] at h ⊢
      by_cases e1 : (numT s).2.2 = 0
      · rw [if_neg (c := _ ≠ _) (fun h => h e1)] at h ⊢
        by_cases e2 : (numT (numT s).2.1).2.2 = 0
        · rw [if_neg (c := _ ≠ _) (fun h => h e2)] at h ⊢
          by_cases hc : (numT (numT s).2.1).1 = 0 ∨ (numT (numT s).2.1).1 > left ∨ lastIs a (numT s).1
          · rw [if_pos hc] at h; exact absurd h (by simp)
          · rw [if_neg hc] at h ⊢
            have hl : ¬ lastIs a (numT s).1 := fun h => hc (.inr (.inr h))
            have hc0 : (numT (numT s).2.1).1 ≠ 0 := fun h => hc (.inl h)
            have hc1 : ¬ (numT (numT s).2.1).1 > left := fun h => hc (.inr (.inl h))
            obtain ⟨b, h1, h2, h3, h4, h5⟩ := ih _ _ _ (by omega) (may_push hm (v := (numT s).1) (c := (numT (numT s).2.1).1) (by omega) hl) (by omega) (by omega) h
            refine ⟨⟨(numT s).1, (numT (numT s).2.1).1⟩ :: b, by rw [h1]; simp, ?_, by simpa using h3, by rw [spread_cons, List.length_append, List.length_replicate]; show (((numT (numT s).2.1).1.toNat + _ : Nat) : Int) = _; omega, fun r hr => ?_⟩
            · have w1 := numT_was s hs e1
              have w2 := numT_was (numT s).2.1 (by omega) e2
              show s = (put (numT s).1 ++ put (numT (numT s).2.1).1) ++ encR b
              rw [← h2, ByteArray.append_assoc, ← w2]
              exact w1
            · rcases List.mem_cons.mp hr with rfl | hr
              · exact ⟨⟨r1.1, r1.2.1⟩, r2.1, by show (numT (numT s).2.1).1 < _; omega⟩
              · exact h5 r hr
        · rw [if_pos e2] at h; exact absurd h e2
      · rw [if_pos e1] at h; exact absurd h e1
theorem dec_enc (l : List Int) (hl : (l.length : Int) ≤ 4096) (h : ∀ x ∈ l, 0 ≤ x ∧ x < 18446744073709551616) : decTo (encR (runs l)) l.length = (l, 0) ∧ ∀ n : Int, n ≠ l.length → (decTo (encR (runs l)) n).2 ≠ 0 := by
  have hw := wf_runs (by omega) h
  have key : ∀ n : Int, 0 ≤ n → dR ((encR (runs l)).size + 1) (encR (runs l)) [] n = if (l.length : Int) = n then (runs l, 0) else ([], 5) := fun n hn => by
    have := dR_enc (runs l) ((encR (runs l)).size + 1) [] n (by omega) (by simpa using may_runs l) hw hn
    rwa [spread_runs, List.nil_append] at this
  constructor
  · unfold decTo
    rw [if_neg (by omega), if_neg (by omega), key _ (by omega), if_pos rfl]
    unfold fin
    rw [if_pos rfl, spread_runs]
  · intro n hn
    unfold decTo
    by_cases h0 : n < 0
    · rw [if_pos h0]; decide
    · by_cases h1 : n > 4096
      · rw [if_neg h0, if_pos h1]; decide
      · rw [if_neg h0, if_neg h1, key n (by omega), if_neg (fun h => hn h.symm)]
        decide
theorem dec_was (s : ByteArray) (hs : s.size ≤ 140737488351232) (n : Int) : ((decTo s n).2 = 0 → ((decTo s n).1.length : Int) = n ∧ encR (runs (decTo s n).1) = s ∧ ∀ x ∈ (decTo s n).1, 0 ≤ x ∧ x < 18446744073709551616) ∧ ((decTo s n).2 ≠ 0 → (decTo s n).1 = []) := by
  unfold decTo
  by_cases h0 : n < 0
  · rw [if_pos h0]; exact ⟨fun h => absurd h (by decide), fun _ => rfl⟩
  · by_cases h1 : n > 4096
    · rw [if_neg h0, if_pos h1]; exact ⟨fun h => absurd h (by decide), fun _ => rfl⟩
    · rw [if_neg h0, if_neg h1]
      unfold fin
      by_cases he : (dR (s.size + 1) s [] n).2 = 0
      · rw [if_pos he]
        refine ⟨fun _ => ?_, fun h => absurd rfl h⟩
        obtain ⟨b, e1, e2, e3, e4, e5⟩ := dR_was (s.size + 1) s [] n (by omega) .nil (by omega) (by omega) he
        simp only [List.nil_append] at e1 e3
        rw [e1]
        refine ⟨e4, ?_, fun x hx => ?_⟩
        · simp only; rw [runs_spread e3, ← e2]
        · simp only [spread, List.mem_flatMap] at hx
          obtain ⟨r, hr, hx⟩ := hx
          obtain rfl := List.eq_of_mem_replicate hx
          exact (e5 r hr).1
      · rw [if_neg he]
        exact ⟨fun h => absurd h he, fun _ => rfl⟩
end Go.Proofs.Ytbgjoiccehiglaa.LibX
end
