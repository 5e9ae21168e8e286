/- Part 2 of what FlagsTurned stands on: merged by a program of this session out of its texts. -/
import Derived.Test.YtbgjoiccehiglaaCFlagsTurned1
section
namespace Go.Proofs.Ytbgjoiccehiglaa.Print
open Go.RowKit Go.Proofs.YtbgjoiccehiglaaW.PrintWords Go.Proofs.YtbgjoiccehiglaaW.PrintLast Go.Proofs.YtbgjoiccehiglaaW.PrintMore
attribute [local go_sem] max2_int min2_int max_two min_two max_three min_three max_four min_four
set_option linter.unusedVariables false
set_option linter.unusedSimpArgs false
def flags_Count.l0 : Nat → Int → List Bool → Int → Int → Option (Int)
  | 0, _, _, _, _ => none
  | k + 1, x3, x6, x7, x8 => if x8 < x7 then (if 0 ≤ x8 then (if x8 < (x6.length : Int) then (if rdOf false x6 x8 = true then (flags_Count.l0 k (wrap64 (x3 + 1)) x6 x7 (wrap64 (x8 + 1))) else (flags_Count.l0 k x3 x6 x7 (wrap64 (x8 + 1)))) else (none)) else (none)) else (some x3)
def flags_Count.f (k : Nat) (l0 : List Bool) : Option (Int) := flags_Count.l0 k 0 l0 (l0.length : Int) 0
theorem flags_Count.mono_l : ∀ k, (∀ y0 y1 y2 y3, LeO (flags_Count.l0 k y0 y1 y2 y3) (flags_Count.l0 (k + 1) y0 y1 y2 y3))
  | 0 => fun _ _ _ _ r h => by simp [flags_Count.l0] at h
  | k + 1 => by
    have ih0 := flags_Count.mono_l k
    · intro y0 y1 y2 y3
      unfold flags_Count.l0
      repeat' first
      | (with_reducible exact ih0 _ _ _ _)
      | (with_reducible exact LeO.refl _)
      | (with_reducible exact LeO.none _)
      | (with_reducible refine LeO.ite ?_ ?_)
      | (with_reducible refine LeO.bind ?_ (fun _ => ?_))
      | exact ih0 _ _ _ _
      | exact LeO.none _
      | refine LeO.ite ?_ ?_
      | refine LeO.bind ?_ (fun _ => ?_)
theorem flags_Count.mono : ∀ a0 k, LeO (flags_Count.f k a0) (flags_Count.f (k + 1) a0) := by
  intro a0 k
  have ih0 := flags_Count.mono_l k
  unfold flags_Count.f
  repeat' first
      | (with_reducible exact ih0 _ _ _ _)
      | (with_reducible exact LeO.refl _)
      | (with_reducible exact LeO.none _)
      | (with_reducible refine LeO.ite ?_ ?_)
      | (with_reducible refine LeO.bind ?_ (fun _ => ?_))
      | exact ih0 _ _ _ _
      | exact LeO.none _
      | refine LeO.ite ?_ ?_
      | refine LeO.bind ?_ (fun _ => ?_)
set_option maxHeartbeats 8000000 in
set_option maxRecDepth 100000 in
theorem flags_Count.calls (k : Nat) (A0 : Option Addr) (c0 : Nat) (l0 : List Bool) (r : Int) (w : World) (hr0 : Kd.C Kd.bool w A0 l0.length l0) (hc0 : l0.length ≤ c0) (h : flags_Count.f k l0 = some r) :
    Calls Try.prog 59 #[.slice A0 l0.length c0] w fun e w' => e = .returned (.int .i64 r) ∧ Drawn0 w w' := by
  have HR0 := Aside0.mk hr0
  have HC0 := Aside0.mk hc0
  clear hr0 hc0
  have H : (flags_Count.l0 k 0 l0 (l0.length : Int) 0) = some r := h
  clear h
  have H' := Aside0.mk H
  clear H
  go_enter Try.func59, Try.ntmps59
  go_wp2
  go_loopg [3, 8] k (fun kq v3 v8 w' => ∃ (x3_1 : Int) (x8_1 : Int), v3 = .int .i64 x3_1 ∧ v8 = .int .i64 x8_1 ∧ Aside0 (flags_Count.l0 kq x3_1 l0 (l0.length : Int) x8_1 = some r) ∧ Aside0 (kq ≤ k) ∧ Drawn0 w w')
  case atStart => exact ⟨(0), (0), (by first | rfl | (simp; done) | (simp [*]; done)), (by first | rfl | (simp; done) | (simp [*]; done)), H', ⟨Nat.le_refl _⟩, by repeat (first | exact Drawn0.refl _ | apply Drawn0.step)⟩
  case round =>
    clear H'
    obtain ⟨x3_1, x8_1, rfl, rfl, HA, HK1, ⟨m1, rfl⟩⟩ := hrel
    cases gk with
    | zero => exact absurd HA.out (by simp [flags_Count.l0])
    | succ k1 =>
      have H := HA.out
      clear HA
      simp only [flags_Count.l0] at H
      by_cases c2 : x8_1 < (l0.length : Int)
      · rw [if_pos c2] at H
        have c2b0 : decide (x8_1 < (l0.length : Int)) = true := decide_eq_true c2
        clear c2
        by_cases c3 : 0 ≤ x8_1
        · rw [if_pos c3] at H
          have c3b0 : decide (0 ≤ x8_1) = true := decide_eq_true c3
          clear c3
          by_cases c4 : x8_1 < (l0.length : Int)
          · rw [if_pos c4] at H
            have c4b0 : decide (x8_1 < (l0.length : Int)) = true := decide_eq_true c4
            clear c4
            obtain ⟨bq5, hbq5⟩ : ∃ b_ : Bool, b_ = (rdOf false l0 x8_1) := ⟨_, rfl⟩
            replace H : (if bq5 = true then (flags_Count.l0 k1 (wrap64 (x3_1 + 1)) l0 (l0.length : Int) (wrap64 (x8_1 + 1))) else (flags_Count.l0 k1 x3_1 l0 (l0.length : Int) (wrap64 (x8_1 + 1)))) = some r := by rw [← hbq5] at H; exact H
            have Nbq5 := Aside0.mk hbq5
            clear hbq5
            by_cases c6 : bq5 = true
            · subst c6
              have H1 : (flags_Count.l0 k1 (wrap64 (x3_1 + 1)) l0 (l0.length : Int) (wrap64 (x8_1 + 1))) = some r := by rw [if_pos rfl] at H; exact H
              clear H
              have H := H1
              clear H1
              have H' := Aside0.mk H
              clear H
              have p557 : 0 ≤ (x8_1 : Int) := of_decide_eq_true (by first | (with_reducible assumption) | assumption)
              have q557 : x8_1 < (l0.length : Int) := of_decide_eq_true (by first | (with_reducible assumption) | assumption)
              obtain ⟨ad557, e557, hx557_0⟩ := Kd.at_bool HR0.out x8_1 p557 q557
              (try rw [← Nbq5.out] at hx557_0)
              cases e557
              replace p557 := eq_true p557
              replace q557 := eq_true q557
              go_wp2
              go_roundg k1
              case measure => have := HK1.out; omega
              case rel => exact ⟨(wrap64 (x3_1 + 1)), (wrap64 (x8_1 + 1)), (by first | rfl | (simp; done) | (simp [*]; done)), (by first | rfl | (simp; done) | (simp [*]; done)), H', ⟨by have := HK1.out; omega⟩, by repeat (first | exact Drawn0.refl _ | apply Drawn0.step)⟩
            · replace c6 := Bool.eq_false_iff.mpr c6
              subst c6
              have H1 : (flags_Count.l0 k1 x3_1 l0 (l0.length : Int) (wrap64 (x8_1 + 1))) = some r := by rw [if_neg (show ¬ (false = true) by decide)] at H; exact H
              clear H
              have H := H1
              clear H1
              have H' := Aside0.mk H
              clear H
              have p557 : 0 ≤ (x8_1 : Int) := of_decide_eq_true (by first | (with_reducible assumption) | assumption)
              have q557 : x8_1 < (l0.length : Int) := of_decide_eq_true (by first | (with_reducible assumption) | assumption)
              obtain ⟨ad557, e557, hx557_0⟩ := Kd.at_bool HR0.out x8_1 p557 q557
              (try rw [← Nbq5.out] at hx557_0)
              cases e557
              replace p557 := eq_true p557
              replace q557 := eq_true q557
              go_wp2
              go_roundg k1
              case measure => have := HK1.out; omega
              case rel => exact ⟨(x3_1), (wrap64 (x8_1 + 1)), (by first | rfl | (simp; done) | (simp [*]; done)), (by first | rfl | (simp; done) | (simp [*]; done)), H', ⟨by have := HK1.out; omega⟩, by repeat (first | exact Drawn0.refl _ | apply Drawn0.step)⟩
          · rw [if_neg c4] at H
            exact absurd H (by simp)
        · rw [if_neg c3] at H
          exact absurd H (by simp)
      · rw [if_neg c2] at H
        have c2b0 : decide (x8_1 < (l0.length : Int)) = false := decide_eq_false c2
        clear c2
        obtain rfl := Option.some.inj H
        go_wp2
        go_ret
        exact ⟨by first | rfl | (simp; done) | (simp [*]; done), by repeat (first | exact Drawn0.refl _ | apply Drawn0.step)⟩
def bonsairef07_Same.l0 : Nat → List Bool → List Bool → Int → Option (Bool)
  | 0, _, _, _ => none
  | k + 1, x0, x1, x5 => if x5 < (x0.length : Int) then (if 0 ≤ x5 then (if x5 < (x1.length : Int) then (if ((rdOf false x0 x5) != (rdOf false x1 x5)) = true then (some false) else (bonsairef07_Same.l0 k x0 x1 (wrap64 (x5 + 1)))) else (none)) else (none)) else (some true)
def bonsairef07_Same.f (k : Nat) (l0 : List Bool) (l1 : List Bool) : Option (Bool) := if (l0.length : Int) = (l1.length : Int) then (bonsairef07_Same.l0 k l0 l1 0) else (some false)
theorem bonsairef07_Same.mono_l : ∀ k, (∀ y0 y1 y2, LeO (bonsairef07_Same.l0 k y0 y1 y2) (bonsairef07_Same.l0 (k + 1) y0 y1 y2))
  | 0 => fun _ _ _ r h => by simp [bonsairef07_Same.l0] at h
  | k + 1 => by
    have ih0 := bonsairef07_Same.mono_l k
    · intro y0 y1 y2
      unfold bonsairef07_Same.l0
      repeat' first
      | (with_reducible exact ih0 _ _ _)
      | (with_reducible exact LeO.refl _)
      | (with_reducible exact LeO.none _)
      | (with_reducible refine LeO.ite ?_ ?_)
      | (with_reducible refine LeO.bind ?_ (fun _ => ?_))
      | exact ih0 _ _ _
      | exact LeO.none _
      | refine LeO.ite ?_ ?_
      | refine LeO.bind ?_ (fun _ => ?_)
theorem bonsairef07_Same.mono : ∀ a0 a1 k, LeO (bonsairef07_Same.f k a0 a1) (bonsairef07_Same.f (k + 1) a0 a1) := by
  intro a0 a1 k
  have ih0 := bonsairef07_Same.mono_l k
  unfold bonsairef07_Same.f
  repeat' first
      | (with_reducible exact ih0 _ _ _)
      | (with_reducible exact LeO.refl _)
      | (with_reducible exact LeO.none _)
      | (with_reducible refine LeO.ite ?_ ?_)
      | (with_reducible refine LeO.bind ?_ (fun _ => ?_))
      | exact ih0 _ _ _
      | exact LeO.none _
      | refine LeO.ite ?_ ?_
      | refine LeO.bind ?_ (fun _ => ?_)
set_option maxHeartbeats 8000000 in
set_option maxRecDepth 100000 in
theorem bonsairef07_Same.calls (k : Nat) (A0 : Option Addr) (c0 : Nat) (l0 : List Bool) (A1 : Option Addr) (c1 : Nat) (l1 : List Bool) (r : Bool) (w : World) (hr0 : Kd.C Kd.bool w A0 l0.length l0) (hc0 : l0.length ≤ c0) (hr1 : Kd.C Kd.bool w A1 l1.length l1) (hc1 : l1.length ≤ c1) (h : bonsairef07_Same.f k l0 l1 = some r) :
    Calls Try.prog 61 #[.slice A0 l0.length c0, .slice A1 l1.length c1] w fun e w' => e = .returned (.bool r) ∧ Drawn0 w w' := by
  have HR0 := Aside0.mk hr0
  have HC0 := Aside0.mk hc0
  clear hr0 hc0
  have HR1 := Aside0.mk hr1
  have HC1 := Aside0.mk hc1
  clear hr1 hc1
  have H : (if (l0.length : Int) = (l1.length : Int) then (bonsairef07_Same.l0 k l0 l1 0) else (some false)) = some r := h
  clear h
  by_cases c3 : (l0.length : Int) = (l1.length : Int)
  · rw [if_pos c3] at H
    have c3b0 : ((l0.length : Int) == (l1.length : Int)) = true := beq_iff_eq.mpr c3
    have c3b1 : ((l0.length : Int) != (l1.length : Int)) = false := bne_eq_false_iff_eq.mpr c3
    have c3b2 : (l0.length == l1.length) = true := by first | simpa using c3 | (simp at c3 ⊢; omega)
    clear c3
    have H' := Aside0.mk H
    clear H
    go_enter Try.func61, Try.ntmps61
    go_wp2
    repeat (go_quiet (fail); try go_wp2)
    go_loopg [5] k (fun kq v5 w' => ∃ (x5_1 : Int), v5 = .int .i64 x5_1 ∧ Aside0 (bonsairef07_Same.l0 kq l0 l1 x5_1 = some r) ∧ Aside0 (kq ≤ k) ∧ Drawn0 w w')
    case atStart => exact ⟨(0), (by first | rfl | (simp; done) | (simp [*]; done)), H', ⟨Nat.le_refl _⟩, by repeat (first | exact Drawn0.refl _ | apply Drawn0.step)⟩
    case round =>
      clear H'
      try clear c1
      try clear p2
      try clear c3
      try clear c3b0
      try clear c3b1
      try clear c3b2
      obtain ⟨x5_1, rfl, HA, HK1, ⟨m1, rfl⟩⟩ := hrel
      cases gk with
      | zero => exact absurd HA.out (by simp [bonsairef07_Same.l0])
      | succ k1 =>
        have H := HA.out
        clear HA
        simp only [bonsairef07_Same.l0] at H
        by_cases c4 : x5_1 < (l0.length : Int)
        · rw [if_pos c4] at H
          have c4b0 : decide (x5_1 < (l0.length : Int)) = true := decide_eq_true c4
          clear c4
          by_cases c5 : 0 ≤ x5_1
          · rw [if_pos c5] at H
            have c5b0 : decide (0 ≤ x5_1) = true := decide_eq_true c5
            clear c5
            by_cases c6 : x5_1 < (l1.length : Int)
            · rw [if_pos c6] at H
              have c6b0 : decide (x5_1 < (l1.length : Int)) = true := decide_eq_true c6
              clear c6
              by_cases c7 : ((rdOf false l0 x5_1) != (rdOf false l1 x5_1)) = true
              · rw [if_pos c7] at H
                have c7b0 : ((rdOf false l0 x5_1) != (rdOf false l1 x5_1)) = true := c7
                (try (have c7b1 : decide ((rdOf false l0 x5_1) = (rdOf false l1 x5_1)) = false := by simpa using c7))
                (try (have c7b2 : ((rdOf false l0 x5_1) == (rdOf false l1 x5_1)) = false := by simpa using c7))
                (try (have c7b3 : ¬ ((rdOf false l0 x5_1) = (rdOf false l1 x5_1)) := by simpa using c7))
                clear c7
                obtain rfl := Option.some.inj H
                have p558 : 0 ≤ (x5_1 : Int) := of_decide_eq_true (by first | (with_reducible assumption) | assumption)
                have q558 : x5_1 < (l0.length : Int) := of_decide_eq_true (by first | (with_reducible assumption) | assumption)
                obtain ⟨ad558, e558, hx558_0⟩ := Kd.at_bool HR0.out x5_1 p558 q558
                cases e558
                replace p558 := eq_true p558
                replace q558 := eq_true q558
                have p559 : 0 ≤ (x5_1 : Int) := of_decide_eq_true (by first | (with_reducible assumption) | assumption)
                have q559 : x5_1 < (l1.length : Int) := of_decide_eq_true (by first | (with_reducible assumption) | assumption)
                obtain ⟨ad559, e559, hx559_0⟩ := Kd.at_bool HR1.out x5_1 p559 q559
                cases e559
                replace p559 := eq_true p559
                replace q559 := eq_true q559
                go_wp2
                repeat (go_quiet (fail); try go_wp2)
                go_ret
                exact ⟨by first | rfl | (simp; done) | (simp [*]; done), by repeat (first | exact Drawn0.refl _ | apply Drawn0.step)⟩
              · rw [if_neg c7] at H
                have c7b0 : ((rdOf false l0 x5_1) != (rdOf false l1 x5_1)) = false := by simpa using c7
                (try (have c7b1 : decide ((rdOf false l0 x5_1) = (rdOf false l1 x5_1)) = true := by simpa using c7))
                (try (have c7b2 : ((rdOf false l0 x5_1) == (rdOf false l1 x5_1)) = true := by simpa using c7))
                clear c7
                have H' := Aside0.mk H
                clear H
                have p558 : 0 ≤ (x5_1 : Int) := of_decide_eq_true (by first | (with_reducible assumption) | assumption)
                have q558 : x5_1 < (l0.length : Int) := of_decide_eq_true (by first | (with_reducible assumption) | assumption)
                obtain ⟨ad558, e558, hx558_0⟩ := Kd.at_bool HR0.out x5_1 p558 q558
                cases e558
                replace p558 := eq_true p558
                replace q558 := eq_true q558
                have p559 : 0 ≤ (x5_1 : Int) := of_decide_eq_true (by first | (with_reducible assumption) | assumption)
                have q559 : x5_1 < (l1.length : Int) := of_decide_eq_true (by first | (with_reducible assumption) | assumption)
                obtain ⟨ad559, e559, hx559_0⟩ := Kd.at_bool HR1.out x5_1 p559 q559
                cases e559
                replace p559 := eq_true p559
                replace q559 := eq_true q559
                go_wp2
                repeat (go_quiet (fail); try go_wp2)
                go_roundg k1
                case measure => have := HK1.out; omega
                case rel => exact ⟨(wrap64 (x5_1 + 1)), (by first | rfl | (simp; done) | (simp [*]; done)), H', ⟨by have := HK1.out; omega⟩, by repeat (first | exact Drawn0.refl _ | apply Drawn0.step)⟩
            · rw [if_neg c6] at H
              exact absurd H (by simp)
          · rw [if_neg c5] at H
            exact absurd H (by simp)
        · rw [if_neg c4] at H
          have c4b0 : decide (x5_1 < (l0.length : Int)) = false := decide_eq_false c4
          clear c4
          obtain rfl := Option.some.inj H
          go_wp2
          repeat (go_quiet (fail); try go_wp2)
          go_ret
          exact ⟨by first | rfl | (simp; done) | (simp [*]; done), by repeat (first | exact Drawn0.refl _ | apply Drawn0.step)⟩
  · rw [if_neg c3] at H
    have c3b0 : ((l0.length : Int) == (l1.length : Int)) = false := beq_eq_false_iff_ne.mpr c3
    have c3b1 : ((l0.length : Int) != (l1.length : Int)) = true := bne_iff_ne.mpr c3
    have c3b2 : (l0.length == l1.length) = false := by first | simpa using c3 | (simp at c3 ⊢; omega)
    obtain rfl := Option.some.inj H
    go_enter Try.func61, Try.ntmps61
    go_wp2
    repeat (go_quiet (fail); try go_wp2)
    go_ret
    exact ⟨by first | rfl | (simp; done) | (simp [*]; done), by repeat (first | exact Drawn0.refl _ | apply Drawn0.step)⟩
def flags_Decode.l0 : Nat → Int → List Int → Int → ByteArray → Int → Option (List Bool × Int)
  | 0, _, _, _, _, _ => none
  | k + 1, x1, x7, x8, x563000, x563001 => (pack_Reader_Left.f x563000 x563001).bind fun bt563 => (if bt563.1 > 0 then ((pack_Reader_Num.f bt563.2.1 bt563.2.2).bind fun bt570 => ((pack_Reader_Err.f bt570.2.1 bt570.2.2).bind fun bt573 => (if bt573.1 = 0 then (if bt570.1 > (IntKind.u64.wrap (x8)) then (some (([] : List Bool), 5)) else (if bt570.1 = 0 then (if (x7.length : Int) > 0 then (some (([] : List Bool), 5)) else (if x7.length < 17592186044416 then (flags_Decode.l0 k x1 (x7 ++ [wrap64 (bt570.1)]) (wrap64 (x8 - (wrap64 (bt570.1)))) bt573.2.1 bt573.2.2) else (none))) else (if x7.length < 17592186044416 then (flags_Decode.l0 k x1 (x7 ++ [wrap64 (bt570.1)]) (wrap64 (x8 - (wrap64 (bt570.1)))) bt573.2.1 bt573.2.2) else (none)))) else (some (([] : List Bool), bt573.1))))) else ((flags_Spread.f k x7 x1).bind fun bt566 => (if bt566.2 = true then (if x8 > 0 then (some (([] : List Bool), 5)) else (some (bt566.1, 0))) else (some (([] : List Bool), 5)))))
def flags_Decode.f (k : Nat) (a0 : ByteArray) (a1 : Int) : Option (List Bool × Int) := if a1 < 0 then (some (([] : List Bool), 1)) else (if a1 > 4096 then (some (([] : List Bool), 10)) else ((pack_New.f a0).bind fun bt560 => (flags_Decode.l0 k a1 ([] : List Int) a1 bt560.1 bt560.2)))
theorem flags_Decode.mono_l : ∀ k, (∀ y0 y1 y2 y3 y4, LeO (flags_Decode.l0 k y0 y1 y2 y3 y4) (flags_Decode.l0 (k + 1) y0 y1 y2 y3 y4))
  | 0 => fun _ _ _ _ _ r h => by simp [flags_Decode.l0] at h
  | k + 1 => by
    have ih0 := flags_Decode.mono_l k
    · intro y0 y1 y2 y3 y4
      unfold flags_Decode.l0
      repeat' first
      | (with_reducible exact ih0 _ _ _ _ _)
      | (with_reducible exact flags_Spread.mono _ _ _)
      | (with_reducible exact LeO.refl _)
      | (with_reducible exact LeO.none _)
      | (with_reducible refine LeO.ite ?_ ?_)
      | (with_reducible refine LeO.bind ?_ (fun _ => ?_))
      | exact ih0 _ _ _ _ _
      | exact flags_Spread.mono _ _ _
      | exact LeO.none _
      | refine LeO.ite ?_ ?_
      | refine LeO.bind ?_ (fun _ => ?_)
theorem flags_Decode.mono : ∀ a0 a1 k, LeO (flags_Decode.f k a0 a1) (flags_Decode.f (k + 1) a0 a1) := by
  intro a0 a1 k
  have ih0 := flags_Decode.mono_l k
  unfold flags_Decode.f
  repeat' first
      | (with_reducible exact ih0 _ _ _ _ _)
      | (with_reducible exact flags_Spread.mono _ _ _)
      | (with_reducible exact LeO.refl _)
      | (with_reducible exact LeO.none _)
      | (with_reducible refine LeO.ite ?_ ?_)
      | (with_reducible refine LeO.bind ?_ (fun _ => ?_))
      | exact ih0 _ _ _ _ _
      | exact flags_Spread.mono _ _ _
      | exact LeO.none _
      | refine LeO.ite ?_ ?_
      | refine LeO.bind ?_ (fun _ => ?_)
set_option maxHeartbeats 8000000 in
set_option maxRecDepth 100000 in
theorem flags_Decode.calls (k : Nat) (a0 : ByteArray) (a1 : Int) (r1 : List Bool) (r2 : Int) (w : World) (h : flags_Decode.f k a0 a1 = some (r1, r2)) :
    Calls Try.prog 62 #[.string a0, .int .i64 a1] w fun e w' => ∃ v0_ : Value, e = .returned (.tuple #[v0_, .int .i64 r2]) ∧ Kd.R Kd.bool 4 w' w.heap.size (fun _ => True) v0_ r1 ∧ Below w.heap.size w w' := by
  have HB := Aside0.mk (Below.refl w.heap.size w)
  have H : (if a1 < 0 then (some (([] : List Bool), 1)) else (if a1 > 4096 then (some (([] : List Bool), 10)) else ((pack_New.f a0).bind fun bt560 => (flags_Decode.l0 k a1 ([] : List Int) a1 bt560.1 bt560.2)))) = some (r1, r2) := h
  clear h
  by_cases c3 : a1 < 0
  · rw [if_pos c3] at H
    have c3b0 : decide (a1 < 0) = true := decide_eq_true c3
    clear c3
    simp only [Option.some.injEq, Prod.mk.injEq] at H
    obtain ⟨rfl, rfl⟩ := H
    go_enter Try.func62, Try.ntmps62
    go_wp2
    go_ret2
    exact ⟨_, by first | rfl | (simp [errW_none, errW_some] <;> rfl) | (simp [*, errW_none, errW_some] <;> rfl), by first | exact Kd.R_nil _ _ _ _ _ | exact Kd.N_nil _ _ _ _ _ | exact Kd.V_nil _ _ _ _ _ | exact Kd.Q_nil _ _ _ _ _ | exact Kd.S_nil _ _ _ _ _, by repeat (first | (with_reducible first | exact HB.out | apply below_alloc | apply pw_below_drewN | apply below_drew1) | exact HB.out)⟩
  · rw [if_neg c3] at H
    have c3b0 : decide (a1 < 0) = false := decide_eq_false c3
    clear c3
    by_cases c4 : a1 > 4096
    · rw [if_pos c4] at H
      have c4b0 : decide (4096 < a1) = true := decide_eq_true c4
      clear c4
      simp only [Option.some.injEq, Prod.mk.injEq] at H
      obtain ⟨rfl, rfl⟩ := H
      go_enter Try.func62, Try.ntmps62
      go_wp2
      go_ret2
      exact ⟨_, by first | rfl | (simp [errW_none, errW_some] <;> rfl) | (simp [*, errW_none, errW_some] <;> rfl), by first | exact Kd.R_nil _ _ _ _ _ | exact Kd.N_nil _ _ _ _ _ | exact Kd.V_nil _ _ _ _ _ | exact Kd.Q_nil _ _ _ _ _ | exact Kd.S_nil _ _ _ _ _, by repeat (first | (with_reducible first | exact HB.out | apply below_alloc | apply pw_below_drewN | apply below_drew1) | exact HB.out)⟩
    · rw [if_neg c4] at H
      have c4b0 : decide (4096 < a1) = false := decide_eq_false c4
      clear c4
      replace H := Option.bind_eq_some_iff.mp H
      obtain ⟨⟨t560, t561⟩, A50, H⟩ := H
      replace H : (flags_Decode.l0 k a1 ([] : List Int) a1 t560 t561) = some (r1, r2) := H
      have A5 := Aside0.mk A50
      clear A50
      have H' := Aside0.mk H
      clear H
      go_enter Try.func62, Try.ntmps62
      go_wp2_with (first | ((with_reducible refine gate_callee (f := 80) rfl ?_); refine goesL_ (some 20) rfl rfl Try.func80 (by kernel_rfl) rfl #[.string a0] rfl (by (try simp only [List.map_toArray, List.map_cons, List.map_nil]); first | done | rfl | (simp only [List.length_drop, List.length_take]; rfl)) ?_; (with_reducible refine (pack_New.calls a0 t560 t561 w _ ?side1 A5.out).mono ?_); (case side1 => repeat (first | (with_reducible first | exact HB.out | apply below_alloc | apply pw_below_drewN | apply below_drew1) | exact HB.out)); rintro e w6 ⟨g562, rfl, hi, hb, hb2⟩; refine ⟨_, rfl, ?_⟩; have n0_ := Aside0.mk (hb); have n1_ := Aside0.mk (hi); clear HB; have HB := n0_; have HI562 := n1_; clear n0_ n1_; (try clear hb); (try clear hb2); (try clear hk); (try clear hi)))
      go_loopg [7, 8] k (fun kq v7 v8 w' => ∃ (x7_1 : List Int) (x8_1 : Int) (x563000_1 : ByteArray) (x563001_1 : Int), v8 = .int .i64 x8_1 ∧ Aside0 (flags_Decode.l0 kq a1 x7_1 x8_1 x563000_1 x563001_1 = some (r1, r2)) ∧ Aside0 (kq ≤ k) ∧ Aside0 (Kd.R (Kd.int .i64) 3 w' w.heap.size (fun _ => True) v7 x7_1) ∧ Aside0 (IsS120 w w' g562 x563000_1 x563001_1) ∧ Aside0 (Below w.heap.size w w'))
      case atStart => exact ⟨(([] : List Int)), (a1), (t560), (t561), (by first | rfl | (simp; done) | (simp [*]; done)), H', ⟨Nat.le_refl _⟩, ⟨by first | exact Kd.R_nil _ _ _ _ _ | exact Kd.N_nil _ _ _ _ _ | exact Kd.V_nil _ _ _ _ _ | exact Kd.Q_nil _ _ _ _ _ | exact Kd.S_nil _ _ _ _ _⟩, ⟨by repeat (first | (with_reducible first | exact HI562.out | apply IsS120.alloc | apply IsS120.drewN | apply IsS120.drew | apply IsS120.set_0 | apply IsS120.set_1) | exact HI562.out)⟩, ⟨by repeat (first | (with_reducible first | exact HB.out | apply below_alloc | apply pw_below_drewN | apply below_drew1 | refine below_set ?_ (IsS120.ge HI562.out)) | exact HB.out)⟩⟩
      case round =>
        clear H'
        try clear p2
        try clear c3
        try clear c3b0
        try clear c4
        try clear c4b0
        try clear c6
        obtain ⟨x7_1, x8_1, x563000_1, x563001_1, rfl, HA, HK1, HO_7, HI562, HB⟩ := hrel
        cases gk with
        | zero => exact absurd HA.out (by simp [flags_Decode.l0])
        | succ k1 =>
          have H := HA.out
          clear HA
          simp only [flags_Decode.l0] at H
          replace H := Option.bind_eq_some_iff.mp H
          obtain ⟨⟨t563, t564, t565⟩, A70, H⟩ := H
          replace H : (if t563 > 0 then ((pack_Reader_Num.f t564 t565).bind fun bt570 => ((pack_Reader_Err.f bt570.2.1 bt570.2.2).bind fun bt573 => (if bt573.1 = 0 then (if bt570.1 > (IntKind.u64.wrap (x8_1)) then (some (([] : List Bool), 5)) else (if bt570.1 = 0 then (if (x7_1.length : Int) > 0 then (some (([] : List Bool), 5)) else (if x7_1.length < 17592186044416 then (flags_Decode.l0 k1 a1 (x7_1 ++ [wrap64 (bt570.1)]) (wrap64 (x8_1 - (wrap64 (bt570.1)))) bt573.2.1 bt573.2.2) else (none))) else (if x7_1.length < 17592186044416 then (flags_Decode.l0 k1 a1 (x7_1 ++ [wrap64 (bt570.1)]) (wrap64 (x8_1 - (wrap64 (bt570.1)))) bt573.2.1 bt573.2.2) else (none)))) else (some (([] : List Bool), bt573.1))))) else ((flags_Spread.f k1 x7_1 a1).bind fun bt566 => (if bt566.2 = true then (if x8_1 > 0 then (some (([] : List Bool), 5)) else (some (bt566.1, 0))) else (some (([] : List Bool), 5))))) = some (r1, r2) := H
          have A7 := Aside0.mk A70
          clear A70
          by_cases c8 : t563 > 0
          · rw [if_pos c8] at H
            have c8b0 : decide (0 < t563) = true := decide_eq_true c8
            clear c8
            replace H := Option.bind_eq_some_iff.mp H
            obtain ⟨⟨t570, t571, t572⟩, A90, H⟩ := H
            replace H : ((pack_Reader_Err.f t571 t572).bind fun bt573 => (if bt573.1 = 0 then (if t570 > (IntKind.u64.wrap (x8_1)) then (some (([] : List Bool), 5)) else (if t570 = 0 then (if (x7_1.length : Int) > 0 then (some (([] : List Bool), 5)) else (if x7_1.length < 17592186044416 then (flags_Decode.l0 k1 a1 (x7_1 ++ [wrap64 (t570)]) (wrap64 (x8_1 - (wrap64 (t570)))) bt573.2.1 bt573.2.2) else (none))) else (if x7_1.length < 17592186044416 then (flags_Decode.l0 k1 a1 (x7_1 ++ [wrap64 (t570)]) (wrap64 (x8_1 - (wrap64 (t570)))) bt573.2.1 bt573.2.2) else (none)))) else (some (([] : List Bool), bt573.1)))) = some (r1, r2) := H
            have A9 := Aside0.mk A90
            clear A90
            replace H := Option.bind_eq_some_iff.mp H
            obtain ⟨⟨t573, t574, t575⟩, A100, H⟩ := H
            replace H : (if t573 = 0 then (if t570 > (IntKind.u64.wrap (x8_1)) then (some (([] : List Bool), 5)) else (if t570 = 0 then (if (x7_1.length : Int) > 0 then (some (([] : List Bool), 5)) else (if x7_1.length < 17592186044416 then (flags_Decode.l0 k1 a1 (x7_1 ++ [wrap64 (t570)]) (wrap64 (x8_1 - (wrap64 (t570)))) t574 t575) else (none))) else (if x7_1.length < 17592186044416 then (flags_Decode.l0 k1 a1 (x7_1 ++ [wrap64 (t570)]) (wrap64 (x8_1 - (wrap64 (t570)))) t574 t575) else (none)))) else (some (([] : List Bool), t573))) = some (r1, r2) := H
            have A10 := Aside0.mk A100
            clear A100
            by_cases c11 : t573 = 0
            · rw [if_pos c11] at H
              have c11b0 : (t573 == 0) = true := beq_iff_eq.mpr c11
              have c11b1 : (t573 != 0) = false := bne_eq_false_iff_eq.mpr c11
              clear c11
              by_cases c12 : t570 > (IntKind.u64.wrap (x8_1))
              · rw [if_pos c12] at H
                have c12b0 : decide ((IntKind.u64.wrap (x8_1)) < t570) = true := decide_eq_true c12
                clear c12
                simp only [Option.some.injEq, Prod.mk.injEq] at H
                obtain ⟨rfl, rfl⟩ := H
                go_wp2_with (first | ((with_reducible refine gate_callee (f := 83) rfl ?_); refine goesL_ (some 23) rfl rfl Try.func83 (by kernel_rfl) rfl #[.pointer (some ⟨g562, 0, none⟩)] rfl (by (try simp only [List.map_toArray, List.map_cons, List.map_nil]); first | done | rfl | (simp only [List.length_drop, List.length_take]; rfl)) ?_; (with_reducible refine (pack_Reader_Left.calls g562 x563000_1 x563001_1 t563 t564 t565 w _ ?side1 ?side2 A7.out).mono ?_); (case side1 => repeat (first | (with_reducible first | exact HI562.out | apply IsS120.alloc | apply IsS120.drewN | apply IsS120.drew | apply IsS120.set_0 | apply IsS120.set_1) | exact HI562.out)); (case side2 => repeat (first | (with_reducible first | exact HB.out | apply below_alloc | apply pw_below_drewN | apply below_drew1 | refine below_set ?_ (IsS120.ge HI562.out)) | exact HB.out)); rintro e w13 ⟨rfl, hi, hb, hk⟩; refine ⟨_, rfl, ?_⟩; have n0_ := Aside0.mk (Kd.R_mono (Kd.R_keep (IsS120.apart (show IsS120 w _ g562 x563000_1 x563001_1 from by repeat (first | (with_reducible first | exact HI562.out | apply IsS120.alloc | apply IsS120.drewN | apply IsS120.drew | apply IsS120.set_0 | apply IsS120.set_1) | exact HI562.out)) (by (with_reducible repeat (first | apply Kd.R_alloc | apply Kd.R_drewN | apply Kd.R_drew)); exact HO_7.out) (by decide)) hk (fun _ h => h.2)) (fun _ h => h.1)); have n1_ := Aside0.mk (hb); have n2_ := Aside0.mk (hi); clear HO_7; clear HB; clear HI562; have HO_7 := n0_; have HB := n1_; have HI562 := n2_; clear n0_ n1_ n2_; (try clear hb); (try clear hb2); (try clear hk); (try clear hi)) | ((with_reducible refine gate_callee (f := 81) rfl ?_); refine goesL_ (some 26) rfl rfl Try.func81 (by kernel_rfl) rfl #[.pointer (some ⟨g562, 0, none⟩)] rfl (by (try simp only [List.map_toArray, List.map_cons, List.map_nil]); first | done | rfl | (simp only [List.length_drop, List.length_take]; rfl)) ?_; (with_reducible refine (pack_Reader_Num.calls g562 t564 t565 t570 t571 t572 w _ ?side1 ?side2 A9.out).mono ?_); (case side1 => repeat (first | (with_reducible first | exact HI562.out | apply IsS120.alloc | apply IsS120.drewN | apply IsS120.drew | apply IsS120.set_0 | apply IsS120.set_1) | exact HI562.out)); (case side2 => repeat (first | (with_reducible first | exact HB.out | apply below_alloc | apply pw_below_drewN | apply below_drew1 | refine below_set ?_ (IsS120.ge HI562.out)) | exact HB.out)); rintro e w14 ⟨rfl, hi, hb, hk⟩; refine ⟨_, rfl, ?_⟩; have n0_ := Aside0.mk (Kd.R_mono (Kd.R_keep (IsS120.apart (show IsS120 w _ g562 t564 t565 from by repeat (first | (with_reducible first | exact HI562.out | apply IsS120.alloc | apply IsS120.drewN | apply IsS120.drew | apply IsS120.set_0 | apply IsS120.set_1) | exact HI562.out)) (by (with_reducible repeat (first | apply Kd.R_alloc | apply Kd.R_drewN | apply Kd.R_drew)); exact HO_7.out) (by decide)) hk (fun _ h => h.2)) (fun _ h => h.1)); have n1_ := Aside0.mk (hb); have n2_ := Aside0.mk (hi); clear HO_7; clear HB; clear HI562; have HO_7 := n0_; have HB := n1_; have HI562 := n2_; clear n0_ n1_ n2_; (try clear hb); (try clear hb2); (try clear hk); (try clear hi)) | ((with_reducible refine gate_callee (f := 82) rfl ?_); refine goesL_ (some 28) rfl rfl Try.func82 (by kernel_rfl) rfl #[.pointer (some ⟨g562, 0, none⟩)] rfl (by (try simp only [List.map_toArray, List.map_cons, List.map_nil]); first | done | rfl | (simp only [List.length_drop, List.length_take]; rfl)) ?_; (with_reducible refine (pack_Reader_Err.calls g562 t571 t572 t573 t574 t575 w _ ?side1 ?side2 A10.out).mono ?_); (case side1 => repeat (first | (with_reducible first | exact HI562.out | apply IsS120.alloc | apply IsS120.drewN | apply IsS120.drew | apply IsS120.set_0 | apply IsS120.set_1) | exact HI562.out)); (case side2 => repeat (first | (with_reducible first | exact HB.out | apply below_alloc | apply pw_below_drewN | apply below_drew1 | refine below_set ?_ (IsS120.ge HI562.out)) | exact HB.out)); rintro e w15 ⟨rfl, hi, hb, hk⟩; refine ⟨_, rfl, ?_⟩; have n0_ := Aside0.mk (Kd.R_mono (Kd.R_keep (IsS120.apart (show IsS120 w _ g562 t571 t572 from by repeat (first | (with_reducible first | exact HI562.out | apply IsS120.alloc | apply IsS120.drewN | apply IsS120.drew | apply IsS120.set_0 | apply IsS120.set_1) | exact HI562.out)) (by (with_reducible repeat (first | apply Kd.R_alloc | apply Kd.R_drewN | apply Kd.R_drew)); exact HO_7.out) (by decide)) hk (fun _ h => h.2)) (fun _ h => h.1)); have n1_ := Aside0.mk (hb); have n2_ := Aside0.mk (hi); clear HO_7; clear HB; clear HI562; have HO_7 := n0_; have HB := n1_; have HI562 := n2_; clear n0_ n1_ n2_; (try clear hb); (try clear hb2); (try clear hk); (try clear hi)))
                go_ret2
                exact ⟨_, by first | rfl | (simp [errW_none, errW_some] <;> rfl) | (simp [*, errW_none, errW_some] <;> rfl), by first | exact Kd.R_nil _ _ _ _ _ | exact Kd.N_nil _ _ _ _ _ | exact Kd.V_nil _ _ _ _ _ | exact Kd.Q_nil _ _ _ _ _ | exact Kd.S_nil _ _ _ _ _, by repeat (first | (with_reducible first | exact HB.out | apply below_alloc | apply pw_below_drewN | apply below_drew1 | refine below_set ?_ (IsS120.ge HI562.out)) | exact HB.out)⟩
              · rw [if_neg c12] at H
                have c12b0 : decide ((IntKind.u64.wrap (x8_1)) < t570) = false := decide_eq_false c12
                clear c12
                by_cases c16 : t570 = 0
                · rw [if_pos c16] at H
                  have c16b0 : (t570 == 0) = true := beq_iff_eq.mpr c16
                  have c16b1 : (t570 != 0) = false := bne_eq_false_iff_eq.mpr c16
                  clear c16
                  by_cases c17 : (x7_1.length : Int) > 0
                  · rw [if_pos c17] at H
                    have c17b0 : decide (0 < (x7_1.length : Int)) = true := decide_eq_true c17
                    have c17b1 : decide (0 < x7_1.length) = true := decide_eq_true (by omega)
                    clear c17
                    simp only [Option.some.injEq, Prod.mk.injEq] at H
                    obtain ⟨rfl, rfl⟩ := H
                    go_wp2_with (first | ((with_reducible refine gate_callee (f := 83) rfl ?_); refine goesL_ (some 23) rfl rfl Try.func83 (by kernel_rfl) rfl #[.pointer (some ⟨g562, 0, none⟩)] rfl (by (try simp only [List.map_toArray, List.map_cons, List.map_nil]); first | done | rfl | (simp only [List.length_drop, List.length_take]; rfl)) ?_; (with_reducible refine (pack_Reader_Left.calls g562 x563000_1 x563001_1 t563 t564 t565 w _ ?side1 ?side2 A7.out).mono ?_); (case side1 => repeat (first | (with_reducible first | exact HI562.out | apply IsS120.alloc | apply IsS120.drewN | apply IsS120.drew | apply IsS120.set_0 | apply IsS120.set_1) | exact HI562.out)); (case side2 => repeat (first | (with_reducible first | exact HB.out | apply below_alloc | apply pw_below_drewN | apply below_drew1 | refine below_set ?_ (IsS120.ge HI562.out)) | exact HB.out)); rintro e w18 ⟨rfl, hi, hb, hk⟩; refine ⟨_, rfl, ?_⟩; have n0_ := Aside0.mk (Kd.R_mono (Kd.R_keep (IsS120.apart (show IsS120 w _ g562 x563000_1 x563001_1 from by repeat (first | (with_reducible first | exact HI562.out | apply IsS120.alloc | apply IsS120.drewN | apply IsS120.drew | apply IsS120.set_0 | apply IsS120.set_1) | exact HI562.out)) (by (with_reducible repeat (first | apply Kd.R_alloc | apply Kd.R_drewN | apply Kd.R_drew)); exact HO_7.out) (by decide)) hk (fun _ h => h.2)) (fun _ h => h.1)); have n1_ := Aside0.mk (hb); have n2_ := Aside0.mk (hi); clear HO_7; clear HB; clear HI562; have HO_7 := n0_; have HB := n1_; have HI562 := n2_; clear n0_ n1_ n2_; (try clear hb); (try clear hb2); (try clear hk); (try clear hi)) | ((with_reducible refine gate_callee (f := 81) rfl ?_); refine goesL_ (some 26) rfl rfl Try.func81 (by kernel_rfl) rfl #[.pointer (some ⟨g562, 0, none⟩)] rfl (by (try simp only [List.map_toArray, List.map_cons, List.map_nil]); first | done | rfl | (simp only [List.length_drop, List.length_take]; rfl)) ?_; (with_reducible refine (pack_Reader_Num.calls g562 t564 t565 t570 t571 t572 w _ ?side1 ?side2 A9.out).mono ?_); (case side1 => repeat (first | (with_reducible first | exact HI562.out | apply IsS120.alloc | apply IsS120.drewN | apply IsS120.drew | apply IsS120.set_0 | apply IsS120.set_1) | exact HI562.out)); (case side2 => repeat (first | (with_reducible first | exact HB.out | apply below_alloc | apply pw_below_drewN | apply below_drew1 | refine below_set ?_ (IsS120.ge HI562.out)) | exact HB.out)); rintro e w19 ⟨rfl, hi, hb, hk⟩; refine ⟨_, rfl, ?_⟩; have n0_ := Aside0.mk (Kd.R_mono (Kd.R_keep (IsS120.apart (show IsS120 w _ g562 t564 t565 from by repeat (first | (with_reducible first | exact HI562.out | apply IsS120.alloc | apply IsS120.drewN | apply IsS120.drew | apply IsS120.set_0 | apply IsS120.set_1) | exact HI562.out)) (by (with_reducible repeat (first | apply Kd.R_alloc | apply Kd.R_drewN | apply Kd.R_drew)); exact HO_7.out) (by decide)) hk (fun _ h => h.2)) (fun _ h => h.1)); have n1_ := Aside0.mk (hb); have n2_ := Aside0.mk (hi); clear HO_7; clear HB; clear HI562; have HO_7 := n0_; have HB := n1_; have HI562 := n2_; clear n0_ n1_ n2_; (try clear hb); (try clear hb2); (try clear hk); (try clear hi)) | ((with_reducible refine gate_callee (f := 82) rfl ?_); refine goesL_ (some 28) rfl rfl Try.func82 (by kernel_rfl) rfl #[.pointer (some ⟨g562, 0, none⟩)] rfl (by (try simp only [List.map_toArray, List.map_cons, List.map_nil]); first | done | rfl | (simp only [List.length_drop, List.length_take]; rfl)) ?_; (with_reducible refine (pack_Reader_Err.calls g562 t571 t572 t573 t574 t575 w _ ?side1 ?side2 A10.out).mono ?_); (case side1 => repeat (first | (with_reducible first | exact HI562.out | apply IsS120.alloc | apply IsS120.drewN | apply IsS120.drew | apply IsS120.set_0 | apply IsS120.set_1) | exact HI562.out)); (case side2 => repeat (first | (with_reducible first | exact HB.out | apply below_alloc | apply pw_below_drewN | apply below_drew1 | refine below_set ?_ (IsS120.ge HI562.out)) | exact HB.out)); rintro e w20 ⟨rfl, hi, hb, hk⟩; refine ⟨_, rfl, ?_⟩; have n0_ := Aside0.mk (Kd.R_mono (Kd.R_keep (IsS120.apart (show IsS120 w _ g562 t571 t572 from by repeat (first | (with_reducible first | exact HI562.out | apply IsS120.alloc | apply IsS120.drewN | apply IsS120.drew | apply IsS120.set_0 | apply IsS120.set_1) | exact HI562.out)) (by (with_reducible repeat (first | apply Kd.R_alloc | apply Kd.R_drewN | apply Kd.R_drew)); exact HO_7.out) (by decide)) hk (fun _ h => h.2)) (fun _ h => h.1)); have n1_ := Aside0.mk (hb); have n2_ := Aside0.mk (hi); clear HO_7; clear HB; clear HI562; have HO_7 := n0_; have HB := n1_; have HI562 := n2_; clear n0_ n1_ n2_; (try clear hb); (try clear hb2); (try clear hk); (try clear hi); obtain ⟨Ao21, co21, eo21⟩ := Kd.R_slice HO_7.out; subst eo21))
                    go_ret2
                    exact ⟨_, by first | rfl | (simp [errW_none, errW_some] <;> rfl) | (simp [*, errW_none, errW_some] <;> rfl), by first | exact Kd.R_nil _ _ _ _ _ | exact Kd.N_nil _ _ _ _ _ | exact Kd.V_nil _ _ _ _ _ | exact Kd.Q_nil _ _ _ _ _ | exact Kd.S_nil _ _ _ _ _, by repeat (first | (with_reducible first | exact HB.out | apply below_alloc | apply pw_below_drewN | apply below_drew1 | refine below_set ?_ (IsS120.ge HI562.out)) | exact HB.out)⟩
                  · rw [if_neg c17] at H
                    have c17b0 : decide (0 < (x7_1.length : Int)) = false := decide_eq_false c17
                    have c17b1 : decide (0 < x7_1.length) = false := decide_eq_false (by omega)
                    clear c17
                    by_cases c22 : x7_1.length < 17592186044416
                    · rw [if_pos c22] at H
                      have LMc22 := Aside0.mk c22
                      clear c22
                      obtain ⟨y576, hy576⟩ : ∃ y_ : List Int, y_ = (x7_1 ++ [wrap64 (t570)]) := ⟨_, rfl⟩
                      replace H : (flags_Decode.l0 k1 a1 y576 (wrap64 (x8_1 - (wrap64 (t570)))) t574 t575) = some (r1, r2) := by first | (rw [hy576]; with_reducible exact H) | (have H2_ := (Option.bind_some _ _).symm.trans H; rw [hy576]; with_reducible exact H2_) | (have H2_ := (Option.bind_some _ _).symm.trans H; with_reducible exact H2_) | with_reducible exact H | (rw [hy576]; exact H) | exact H
                      have Ny576 := Aside0.mk hy576
                      clear hy576
                      have H' := Aside0.mk H
                      clear H
                      go_wp2_with (first | ((with_reducible refine gate_callee (f := 83) rfl ?_); refine goesL_ (some 23) rfl rfl Try.func83 (by kernel_rfl) rfl #[.pointer (some ⟨g562, 0, none⟩)] rfl (by (try simp only [List.map_toArray, List.map_cons, List.map_nil]); first | done | rfl | (simp only [List.length_drop, List.length_take]; rfl)) ?_; (with_reducible refine (pack_Reader_Left.calls g562 x563000_1 x563001_1 t563 t564 t565 w _ ?side1 ?side2 A7.out).mono ?_); (case side1 => repeat (first | (with_reducible first | exact HI562.out | apply IsS120.alloc | apply IsS120.drewN | apply IsS120.drew | apply IsS120.set_0 | apply IsS120.set_1) | exact HI562.out)); (case side2 => repeat (first | (with_reducible first | exact HB.out | apply below_alloc | apply pw_below_drewN | apply below_drew1 | refine below_set ?_ (IsS120.ge HI562.out)) | exact HB.out)); rintro e w23 ⟨rfl, hi, hb, hk⟩; refine ⟨_, rfl, ?_⟩; have n0_ := Aside0.mk (Kd.R_mono (Kd.R_keep (IsS120.apart (show IsS120 w _ g562 x563000_1 x563001_1 from by repeat (first | (with_reducible first | exact HI562.out | apply IsS120.alloc | apply IsS120.drewN | apply IsS120.drew | apply IsS120.set_0 | apply IsS120.set_1) | exact HI562.out)) (by (with_reducible repeat (first | apply Kd.R_alloc | apply Kd.R_drewN | apply Kd.R_drew)); exact HO_7.out) (by decide)) hk (fun _ h => h.2)) (fun _ h => h.1)); have n1_ := Aside0.mk (hb); have n2_ := Aside0.mk (hi); clear HO_7; clear HB; clear HI562; have HO_7 := n0_; have HB := n1_; have HI562 := n2_; clear n0_ n1_ n2_; (try clear hb); (try clear hb2); (try clear hk); (try clear hi)) | ((with_reducible refine gate_callee (f := 81) rfl ?_); refine goesL_ (some 26) rfl rfl Try.func81 (by kernel_rfl) rfl #[.pointer (some ⟨g562, 0, none⟩)] rfl (by (try simp only [List.map_toArray, List.map_cons, List.map_nil]); first | done | rfl | (simp only [List.length_drop, List.length_take]; rfl)) ?_; (with_reducible refine (pack_Reader_Num.calls g562 t564 t565 t570 t571 t572 w _ ?side1 ?side2 A9.out).mono ?_); (case side1 => repeat (first | (with_reducible first | exact HI562.out | apply IsS120.alloc | apply IsS120.drewN | apply IsS120.drew | apply IsS120.set_0 | apply IsS120.set_1) | exact HI562.out)); (case side2 => repeat (first | (with_reducible first | exact HB.out | apply below_alloc | apply pw_below_drewN | apply below_drew1 | refine below_set ?_ (IsS120.ge HI562.out)) | exact HB.out)); rintro e w24 ⟨rfl, hi, hb, hk⟩; refine ⟨_, rfl, ?_⟩; have n0_ := Aside0.mk (Kd.R_mono (Kd.R_keep (IsS120.apart (show IsS120 w _ g562 t564 t565 from by repeat (first | (with_reducible first | exact HI562.out | apply IsS120.alloc | apply IsS120.drewN | apply IsS120.drew | apply IsS120.set_0 | apply IsS120.set_1) | exact HI562.out)) (by (with_reducible repeat (first | apply Kd.R_alloc | apply Kd.R_drewN | apply Kd.R_drew)); exact HO_7.out) (by decide)) hk (fun _ h => h.2)) (fun _ h => h.1)); have n1_ := Aside0.mk (hb); have n2_ := Aside0.mk (hi); clear HO_7; clear HB; clear HI562; have HO_7 := n0_; have HB := n1_; have HI562 := n2_; clear n0_ n1_ n2_; (try clear hb); (try clear hb2); (try clear hk); (try clear hi)) | ((with_reducible refine gate_callee (f := 82) rfl ?_); refine goesL_ (some 28) rfl rfl Try.func82 (by kernel_rfl) rfl #[.pointer (some ⟨g562, 0, none⟩)] rfl (by (try simp only [List.map_toArray, List.map_cons, List.map_nil]); first | done | rfl | (simp only [List.length_drop, List.length_take]; rfl)) ?_; (with_reducible refine (pack_Reader_Err.calls g562 t571 t572 t573 t574 t575 w _ ?side1 ?side2 A10.out).mono ?_); (case side1 => repeat (first | (with_reducible first | exact HI562.out | apply IsS120.alloc | apply IsS120.drewN | apply IsS120.drew | apply IsS120.set_0 | apply IsS120.set_1) | exact HI562.out)); (case side2 => repeat (first | (with_reducible first | exact HB.out | apply below_alloc | apply pw_below_drewN | apply below_drew1 | refine below_set ?_ (IsS120.ge HI562.out)) | exact HB.out)); rintro e w25 ⟨rfl, hi, hb, hk⟩; refine ⟨_, rfl, ?_⟩; have n0_ := Aside0.mk (Kd.R_mono (Kd.R_keep (IsS120.apart (show IsS120 w _ g562 t571 t572 from by repeat (first | (with_reducible first | exact HI562.out | apply IsS120.alloc | apply IsS120.drewN | apply IsS120.drew | apply IsS120.set_0 | apply IsS120.set_1) | exact HI562.out)) (by (with_reducible repeat (first | apply Kd.R_alloc | apply Kd.R_drewN | apply Kd.R_drew)); exact HO_7.out) (by decide)) hk (fun _ h => h.2)) (fun _ h => h.1)); have n1_ := Aside0.mk (hb); have n2_ := Aside0.mk (hi); clear HO_7; clear HB; clear HI562; have HO_7 := n0_; have HB := n1_; have HI562 := n2_; clear n0_ n1_ n2_; (try clear hb); (try clear hb2); (try clear hk); (try clear hi); obtain ⟨Ao26, co26, eo26⟩ := Kd.R_slice HO_7.out; subst eo26) | ((with_reducible refine gate_builtin (b := .append) (xs := #[.tmp 49, .tmp 52]) rfl ?_); (try (refine gate_guard (by rfl) ?_; dsimp only)); at_builtin; refine Kd.R_append (Kd.int .i64) (w0 := w) w.heap.size rfl (.tmp 49) (.tmp 52) 56 3 (.int .i64 0) 8 rfl Try.underlying56 info3 rfl (by decide) (by omega) (.slice Ao26 x7_1.length co26) x7_1 (wrap64 (t570)) [.int .i64 (wrap64 (t570))] (fun _ => True) (fun _ => False) rfl rfl ?aP (fun _ hk => hk.elim) ?aF ?aO ?aB ?aS ?aL ?_; (case aP => exact rfl); (case aB => exact (by repeat (first | (with_reducible first | exact HB.out | apply below_alloc | apply pw_below_drewN | apply below_drew1 | refine below_set ?_ (IsS120.ge HI562.out)) | exact HB.out))); (case aF => exact (fun _ _ => trivial)); (case aO => exact (by (with_reducible repeat (first | apply Kd.R_alloc | apply Kd.R_drewN | apply Kd.R_drew)); exact HO_7.out)); (case aS => exact (below_size (by repeat (first | (with_reducible first | exact HB.out | apply below_alloc | apply pw_below_drewN | apply below_drew1 | refine below_set ?_ (IsS120.ge HI562.out)) | exact HB.out)))); (case aL => have := LMc22.out; omega); intro v577 w27 ho hb hg hat; rw [← Ny576.out] at ho; have n0_ := Aside0.mk (IsS120.grown (by repeat (first | (with_reducible first | exact HI562.out | apply IsS120.alloc | apply IsS120.drewN | apply IsS120.drew | apply IsS120.set_0 | apply IsS120.set_1) | exact HI562.out)) hg (IsS120.own_ne HI562.out HO_7.out (by decide))); have n1_ := Aside0.mk (hb); have n2_ := Aside0.mk (ho); clear HI562; clear HB; clear HO_7; have HI562 := n0_; have HB := n1_; have HO578 := n2_; clear n0_ n1_ n2_; clear ho hb hg hat))
                      go_roundg k1
                      case measure => have := HK1.out; omega
                      case rel => exact ⟨(y576), (wrap64 (x8_1 - (wrap64 (t570)))), (t574), (t575), (by first | rfl | (simp; done) | (simp [*]; done)), H', ⟨by have := HK1.out; omega⟩, ⟨by (with_reducible repeat (first | apply Kd.R_alloc | apply Kd.R_drewN | apply Kd.R_drew)); exact HO578.out⟩, ⟨by repeat (first | (with_reducible first | exact HI562.out | apply IsS120.alloc | apply IsS120.drewN | apply IsS120.drew | apply IsS120.set_0 | apply IsS120.set_1) | exact HI562.out)⟩, ⟨by repeat (first | (with_reducible first | exact HB.out | apply below_alloc | apply pw_below_drewN | apply below_drew1 | refine below_set ?_ (IsS120.ge HI562.out)) | exact HB.out)⟩⟩
                    · rw [if_neg c22] at H
                      exact absurd H (by simp)
                · rw [if_neg c16] at H
                  have c16b0 : (t570 == 0) = false := beq_eq_false_iff_ne.mpr c16
                  have c16b1 : (t570 != 0) = true := bne_iff_ne.mpr c16
                  by_cases c28 : x7_1.length < 17592186044416
                  · rw [if_pos c28] at H
                    have LMc28 := Aside0.mk c28
                    clear c28
                    obtain ⟨y579, hy579⟩ : ∃ y_ : List Int, y_ = (x7_1 ++ [wrap64 (t570)]) := ⟨_, rfl⟩
                    replace H : (flags_Decode.l0 k1 a1 y579 (wrap64 (x8_1 - (wrap64 (t570)))) t574 t575) = some (r1, r2) := by first | (rw [hy579]; with_reducible exact H) | (have H2_ := (Option.bind_some _ _).symm.trans H; rw [hy579]; with_reducible exact H2_) | (have H2_ := (Option.bind_some _ _).symm.trans H; with_reducible exact H2_) | with_reducible exact H | (rw [hy579]; exact H) | exact H
                    have Ny579 := Aside0.mk hy579
                    clear hy579
                    have H' := Aside0.mk H
                    clear H
                    go_wp2_with (first | ((with_reducible refine gate_callee (f := 83) rfl ?_); refine goesL_ (some 23) rfl rfl Try.func83 (by kernel_rfl) rfl #[.pointer (some ⟨g562, 0, none⟩)] rfl (by (try simp only [List.map_toArray, List.map_cons, List.map_nil]); first | done | rfl | (simp only [List.length_drop, List.length_take]; rfl)) ?_; (with_reducible refine (pack_Reader_Left.calls g562 x563000_1 x563001_1 t563 t564 t565 w _ ?side1 ?side2 A7.out).mono ?_); (case side1 => repeat (first | (with_reducible first | exact HI562.out | apply IsS120.alloc | apply IsS120.drewN | apply IsS120.drew | apply IsS120.set_0 | apply IsS120.set_1) | exact HI562.out)); (case side2 => repeat (first | (with_reducible first | exact HB.out | apply below_alloc | apply pw_below_drewN | apply below_drew1 | refine below_set ?_ (IsS120.ge HI562.out)) | exact HB.out)); rintro e w29 ⟨rfl, hi, hb, hk⟩; refine ⟨_, rfl, ?_⟩; have n0_ := Aside0.mk (Kd.R_mono (Kd.R_keep (IsS120.apart (show IsS120 w _ g562 x563000_1 x563001_1 from by repeat (first | (with_reducible first | exact HI562.out | apply IsS120.alloc | apply IsS120.drewN | apply IsS120.drew | apply IsS120.set_0 | apply IsS120.set_1) | exact HI562.out)) (by (with_reducible repeat (first | apply Kd.R_alloc | apply Kd.R_drewN | apply Kd.R_drew)); exact HO_7.out) (by decide)) hk (fun _ h => h.2)) (fun _ h => h.1)); have n1_ := Aside0.mk (hb); have n2_ := Aside0.mk (hi); clear HO_7; clear HB; clear HI562; have HO_7 := n0_; have HB := n1_; have HI562 := n2_; clear n0_ n1_ n2_; (try clear hb); (try clear hb2); (try clear hk); (try clear hi)) | ((with_reducible refine gate_callee (f := 81) rfl ?_); refine goesL_ (some 26) rfl rfl Try.func81 (by kernel_rfl) rfl #[.pointer (some ⟨g562, 0, none⟩)] rfl (by (try simp only [List.map_toArray, List.map_cons, List.map_nil]); first | done | rfl | (simp only [List.length_drop, List.length_take]; rfl)) ?_; (with_reducible refine (pack_Reader_Num.calls g562 t564 t565 t570 t571 t572 w _ ?side1 ?side2 A9.out).mono ?_); (case side1 => repeat (first | (with_reducible first | exact HI562.out | apply IsS120.alloc | apply IsS120.drewN | apply IsS120.drew | apply IsS120.set_0 | apply IsS120.set_1) | exact HI562.out)); (case side2 => repeat (first | (with_reducible first | exact HB.out | apply below_alloc | apply pw_below_drewN | apply below_drew1 | refine below_set ?_ (IsS120.ge HI562.out)) | exact HB.out)); rintro e w30 ⟨rfl, hi, hb, hk⟩; refine ⟨_, rfl, ?_⟩; have n0_ := Aside0.mk (Kd.R_mono (Kd.R_keep (IsS120.apart (show IsS120 w _ g562 t564 t565 from by repeat (first | (with_reducible first | exact HI562.out | apply IsS120.alloc | apply IsS120.drewN | apply IsS120.drew | apply IsS120.set_0 | apply IsS120.set_1) | exact HI562.out)) (by (with_reducible repeat (first | apply Kd.R_alloc | apply Kd.R_drewN | apply Kd.R_drew)); exact HO_7.out) (by decide)) hk (fun _ h => h.2)) (fun _ h => h.1)); have n1_ := Aside0.mk (hb); have n2_ := Aside0.mk (hi); clear HO_7; clear HB; clear HI562; have HO_7 := n0_; have HB := n1_; have HI562 := n2_; clear n0_ n1_ n2_; (try clear hb); (try clear hb2); (try clear hk); (try clear hi)) | ((with_reducible refine gate_callee (f := 82) rfl ?_); refine goesL_ (some 28) rfl rfl Try.func82 (by kernel_rfl) rfl #[.pointer (some ⟨g562, 0, none⟩)] rfl (by (try simp only [List.map_toArray, List.map_cons, List.map_nil]); first | done | rfl | (simp only [List.length_drop, List.length_take]; rfl)) ?_; (with_reducible refine (pack_Reader_Err.calls g562 t571 t572 t573 t574 t575 w _ ?side1 ?side2 A10.out).mono ?_); (case side1 => repeat (first | (with_reducible first | exact HI562.out | apply IsS120.alloc | apply IsS120.drewN | apply IsS120.drew | apply IsS120.set_0 | apply IsS120.set_1) | exact HI562.out)); (case side2 => repeat (first | (with_reducible first | exact HB.out | apply below_alloc | apply pw_below_drewN | apply below_drew1 | refine below_set ?_ (IsS120.ge HI562.out)) | exact HB.out)); rintro e w31 ⟨rfl, hi, hb, hk⟩; refine ⟨_, rfl, ?_⟩; have n0_ := Aside0.mk (Kd.R_mono (Kd.R_keep (IsS120.apart (show IsS120 w _ g562 t571 t572 from by repeat (first | (with_reducible first | exact HI562.out | apply IsS120.alloc | apply IsS120.drewN | apply IsS120.drew | apply IsS120.set_0 | apply IsS120.set_1) | exact HI562.out)) (by (with_reducible repeat (first | apply Kd.R_alloc | apply Kd.R_drewN | apply Kd.R_drew)); exact HO_7.out) (by decide)) hk (fun _ h => h.2)) (fun _ h => h.1)); have n1_ := Aside0.mk (hb); have n2_ := Aside0.mk (hi); clear HO_7; clear HB; clear HI562; have HO_7 := n0_; have HB := n1_; have HI562 := n2_; clear n0_ n1_ n2_; (try clear hb); (try clear hb2); (try clear hk); (try clear hi)) | ((with_reducible refine gate_builtin (b := .append) (xs := #[.tmp 49, .tmp 52]) rfl ?_); (try (refine gate_guard (by rfl) ?_; dsimp only)); at_builtin; refine Kd.R_append (Kd.int .i64) (w0 := w) w.heap.size rfl (.tmp 49) (.tmp 52) 56 3 (.int .i64 0) 8 rfl Try.underlying56 info3 rfl (by decide) (by omega) u7 x7_1 (wrap64 (t570)) [.int .i64 (wrap64 (t570))] (fun _ => True) (fun _ => False) rfl rfl ?aP (fun _ hk => hk.elim) ?aF ?aO ?aB ?aS ?aL ?_; (case aP => exact rfl); (case aB => exact (by repeat (first | (with_reducible first | exact HB.out | apply below_alloc | apply pw_below_drewN | apply below_drew1 | refine below_set ?_ (IsS120.ge HI562.out)) | exact HB.out))); (case aF => exact (fun _ _ => trivial)); (case aO => exact (by (with_reducible repeat (first | apply Kd.R_alloc | apply Kd.R_drewN | apply Kd.R_drew)); exact HO_7.out)); (case aS => exact (below_size (by repeat (first | (with_reducible first | exact HB.out | apply below_alloc | apply pw_below_drewN | apply below_drew1 | refine below_set ?_ (IsS120.ge HI562.out)) | exact HB.out)))); (case aL => have := LMc28.out; omega); intro v580 w32 ho hb hg hat; rw [← Ny579.out] at ho; have n0_ := Aside0.mk (IsS120.grown (by repeat (first | (with_reducible first | exact HI562.out | apply IsS120.alloc | apply IsS120.drewN | apply IsS120.drew | apply IsS120.set_0 | apply IsS120.set_1) | exact HI562.out)) hg (IsS120.own_ne HI562.out HO_7.out (by decide))); have n1_ := Aside0.mk (hb); have n2_ := Aside0.mk (ho); clear HI562; clear HB; clear HO_7; have HI562 := n0_; have HB := n1_; have HO581 := n2_; clear n0_ n1_ n2_; clear ho hb hg hat))
                    go_roundg k1
                    case measure => have := HK1.out; omega
                    case rel => exact ⟨(y579), (wrap64 (x8_1 - (wrap64 (t570)))), (t574), (t575), (by first | rfl | (simp; done) | (simp [*]; done)), H', ⟨by have := HK1.out; omega⟩, ⟨by (with_reducible repeat (first | apply Kd.R_alloc | apply Kd.R_drewN | apply Kd.R_drew)); exact HO581.out⟩, ⟨by repeat (first | (with_reducible first | exact HI562.out | apply IsS120.alloc | apply IsS120.drewN | apply IsS120.drew | apply IsS120.set_0 | apply IsS120.set_1) | exact HI562.out)⟩, ⟨by repeat (first | (with_reducible first | exact HB.out | apply below_alloc | apply pw_below_drewN | apply below_drew1 | refine below_set ?_ (IsS120.ge HI562.out)) | exact HB.out)⟩⟩
                  · rw [if_neg c28] at H
                    exact absurd H (by simp)
            · rw [if_neg c11] at H
              have c11b0 : (t573 == 0) = false := beq_eq_false_iff_ne.mpr c11
              have c11b1 : (t573 != 0) = true := bne_iff_ne.mpr c11
              simp only [Option.some.injEq, Prod.mk.injEq] at H
              obtain ⟨rfl, rfl⟩ := H
              go_wp2_with (first | ((with_reducible refine gate_callee (f := 83) rfl ?_); refine goesL_ (some 23) rfl rfl Try.func83 (by kernel_rfl) rfl #[.pointer (some ⟨g562, 0, none⟩)] rfl (by (try simp only [List.map_toArray, List.map_cons, List.map_nil]); first | done | rfl | (simp only [List.length_drop, List.length_take]; rfl)) ?_; (with_reducible refine (pack_Reader_Left.calls g562 x563000_1 x563001_1 t563 t564 t565 w _ ?side1 ?side2 A7.out).mono ?_); (case side1 => repeat (first | (with_reducible first | exact HI562.out | apply IsS120.alloc | apply IsS120.drewN | apply IsS120.drew | apply IsS120.set_0 | apply IsS120.set_1) | exact HI562.out)); (case side2 => repeat (first | (with_reducible first | exact HB.out | apply below_alloc | apply pw_below_drewN | apply below_drew1 | refine below_set ?_ (IsS120.ge HI562.out)) | exact HB.out)); rintro e w33 ⟨rfl, hi, hb, hk⟩; refine ⟨_, rfl, ?_⟩; have n0_ := Aside0.mk (Kd.R_mono (Kd.R_keep (IsS120.apart (show IsS120 w _ g562 x563000_1 x563001_1 from by repeat (first | (with_reducible first | exact HI562.out | apply IsS120.alloc | apply IsS120.drewN | apply IsS120.drew | apply IsS120.set_0 | apply IsS120.set_1) | exact HI562.out)) (by (with_reducible repeat (first | apply Kd.R_alloc | apply Kd.R_drewN | apply Kd.R_drew)); exact HO_7.out) (by decide)) hk (fun _ h => h.2)) (fun _ h => h.1)); have n1_ := Aside0.mk (hb); have n2_ := Aside0.mk (hi); clear HO_7; clear HB; clear HI562; have HO_7 := n0_; have HB := n1_; have HI562 := n2_; clear n0_ n1_ n2_; (try clear hb); (try clear hb2); (try clear hk); (try clear hi)) | ((with_reducible refine gate_callee (f := 81) rfl ?_); refine goesL_ (some 26) rfl rfl Try.func81 (by kernel_rfl) rfl #[.pointer (some ⟨g562, 0, none⟩)] rfl (by (try simp only [List.map_toArray, List.map_cons, List.map_nil]); first | done | rfl | (simp only [List.length_drop, List.length_take]; rfl)) ?_; (with_reducible refine (pack_Reader_Num.calls g562 t564 t565 t570 t571 t572 w _ ?side1 ?side2 A9.out).mono ?_); (case side1 => repeat (first | (with_reducible first | exact HI562.out | apply IsS120.alloc | apply IsS120.drewN | apply IsS120.drew | apply IsS120.set_0 | apply IsS120.set_1) | exact HI562.out)); (case side2 => repeat (first | (with_reducible first | exact HB.out | apply below_alloc | apply pw_below_drewN | apply below_drew1 | refine below_set ?_ (IsS120.ge HI562.out)) | exact HB.out)); rintro e w34 ⟨rfl, hi, hb, hk⟩; refine ⟨_, rfl, ?_⟩; have n0_ := Aside0.mk (Kd.R_mono (Kd.R_keep (IsS120.apart (show IsS120 w _ g562 t564 t565 from by repeat (first | (with_reducible first | exact HI562.out | apply IsS120.alloc | apply IsS120.drewN | apply IsS120.drew | apply IsS120.set_0 | apply IsS120.set_1) | exact HI562.out)) (by (with_reducible repeat (first | apply Kd.R_alloc | apply Kd.R_drewN | apply Kd.R_drew)); exact HO_7.out) (by decide)) hk (fun _ h => h.2)) (fun _ h => h.1)); have n1_ := Aside0.mk (hb); have n2_ := Aside0.mk (hi); clear HO_7; clear HB; clear HI562; have HO_7 := n0_; have HB := n1_; have HI562 := n2_; clear n0_ n1_ n2_; (try clear hb); (try clear hb2); (try clear hk); (try clear hi)) | ((with_reducible refine gate_callee (f := 82) rfl ?_); refine goesL_ (some 28) rfl rfl Try.func82 (by kernel_rfl) rfl #[.pointer (some ⟨g562, 0, none⟩)] rfl (by (try simp only [List.map_toArray, List.map_cons, List.map_nil]); first | done | rfl | (simp only [List.length_drop, List.length_take]; rfl)) ?_; (with_reducible refine (pack_Reader_Err.calls g562 t571 t572 t573 t574 t575 w _ ?side1 ?side2 A10.out).mono ?_); (case side1 => repeat (first | (with_reducible first | exact HI562.out | apply IsS120.alloc | apply IsS120.drewN | apply IsS120.drew | apply IsS120.set_0 | apply IsS120.set_1) | exact HI562.out)); (case side2 => repeat (first | (with_reducible first | exact HB.out | apply below_alloc | apply pw_below_drewN | apply below_drew1 | refine below_set ?_ (IsS120.ge HI562.out)) | exact HB.out)); rintro e w35 ⟨rfl, hi, hb, hk⟩; refine ⟨_, rfl, ?_⟩; have n0_ := Aside0.mk (Kd.R_mono (Kd.R_keep (IsS120.apart (show IsS120 w _ g562 t571 t572 from by repeat (first | (with_reducible first | exact HI562.out | apply IsS120.alloc | apply IsS120.drewN | apply IsS120.drew | apply IsS120.set_0 | apply IsS120.set_1) | exact HI562.out)) (by (with_reducible repeat (first | apply Kd.R_alloc | apply Kd.R_drewN | apply Kd.R_drew)); exact HO_7.out) (by decide)) hk (fun _ h => h.2)) (fun _ h => h.1)); have n1_ := Aside0.mk (hb); have n2_ := Aside0.mk (hi); clear HO_7; clear HB; clear HI562; have HO_7 := n0_; have HB := n1_; have HI562 := n2_; clear n0_ n1_ n2_; (try clear hb); (try clear hb2); (try clear hk); (try clear hi)))
              go_ret2
              exact ⟨_, by first | rfl | (simp [errW_none, errW_some] <;> rfl) | (simp [*, errW_none, errW_some] <;> rfl), by first | exact Kd.R_nil _ _ _ _ _ | exact Kd.N_nil _ _ _ _ _ | exact Kd.V_nil _ _ _ _ _ | exact Kd.Q_nil _ _ _ _ _ | exact Kd.S_nil _ _ _ _ _, by repeat (first | (with_reducible first | exact HB.out | apply below_alloc | apply pw_below_drewN | apply below_drew1 | refine below_set ?_ (IsS120.ge HI562.out)) | exact HB.out)⟩
          · rw [if_neg c8] at H
            have c8b0 : decide (0 < t563) = false := decide_eq_false c8
            clear c8
            replace H := Option.bind_eq_some_iff.mp H
            obtain ⟨⟨t566, t567⟩, A360, H⟩ := H
            replace H : (if t567 = true then (if x8_1 > 0 then (some (([] : List Bool), 5)) else (some (t566, 0))) else (some (([] : List Bool), 5))) = some (r1, r2) := H
            have A36 := Aside0.mk A360
            clear A360
            by_cases c37 : t567 = true
            · subst c37
              have H1 : (if x8_1 > 0 then (some (([] : List Bool), 5)) else (some (t566, 0))) = some (r1, r2) := by rw [if_pos rfl] at H; exact H
              clear H
              have H := H1
              clear H1
              by_cases c38 : x8_1 > 0
              · rw [if_pos c38] at H
                have c38b0 : decide (0 < x8_1) = true := decide_eq_true c38
                clear c38
                simp only [Option.some.injEq, Prod.mk.injEq] at H
                obtain ⟨rfl, rfl⟩ := H
                go_wp2_with (first | ((with_reducible refine gate_callee (f := 83) rfl ?_); refine goesL_ (some 23) rfl rfl Try.func83 (by kernel_rfl) rfl #[.pointer (some ⟨g562, 0, none⟩)] rfl (by (try simp only [List.map_toArray, List.map_cons, List.map_nil]); first | done | rfl | (simp only [List.length_drop, List.length_take]; rfl)) ?_; (with_reducible refine (pack_Reader_Left.calls g562 x563000_1 x563001_1 t563 t564 t565 w _ ?side1 ?side2 A7.out).mono ?_); (case side1 => repeat (first | (with_reducible first | exact HI562.out | apply IsS120.alloc | apply IsS120.drewN | apply IsS120.drew | apply IsS120.set_0 | apply IsS120.set_1) | exact HI562.out)); (case side2 => repeat (first | (with_reducible first | exact HB.out | apply below_alloc | apply pw_below_drewN | apply below_drew1 | refine below_set ?_ (IsS120.ge HI562.out)) | exact HB.out)); rintro e w39 ⟨rfl, hi, hb, hk⟩; refine ⟨_, rfl, ?_⟩; have n0_ := Aside0.mk (Kd.R_mono (Kd.R_keep (IsS120.apart (show IsS120 w _ g562 x563000_1 x563001_1 from by repeat (first | (with_reducible first | exact HI562.out | apply IsS120.alloc | apply IsS120.drewN | apply IsS120.drew | apply IsS120.set_0 | apply IsS120.set_1) | exact HI562.out)) (by (with_reducible repeat (first | apply Kd.R_alloc | apply Kd.R_drewN | apply Kd.R_drew)); exact HO_7.out) (by decide)) hk (fun _ h => h.2)) (fun _ h => h.1)); have n1_ := Aside0.mk (hb); have n2_ := Aside0.mk (hi); clear HO_7; clear HB; clear HI562; have HO_7 := n0_; have HB := n1_; have HI562 := n2_; clear n0_ n1_ n2_; (try clear hb); (try clear hb2); (try clear hk); (try clear hi); obtain ⟨Ao40, co40, eo40⟩ := Kd.R_slice HO_7.out; subst eo40) | ((with_reducible refine gate_callee (f := 52) rfl ?_); refine goesL_ (some 57) rfl rfl Try.func52 (by kernel_rfl) rfl #[.slice Ao40 x7_1.length co40, .int .i64 a1] rfl (by (try simp only [List.map_toArray, List.map_cons, List.map_nil]); first | done | rfl | (simp only [List.length_drop, List.length_take]; rfl)) ?_; (with_reducible refine (flags_Spread.calls k1 _ _ x7_1 a1 t566 true _ ?side1 ?side2 A36.out).mono ?_); (case side1 => repeat (first | exact (Kd.R_reads' HO_7.out).2.2 | (with_reducible refine Kd.C_alloc ?_ _) | (with_reducible refine Kd.C_drewN ?_ _) | (with_reducible refine Kd.C_drew ?_))); (case side2 => exact (Kd.R_reads' HO_7.out).2.1); rintro e w41 ⟨v568, rfl, ho0, hb⟩; refine ⟨_, rfl, ?_⟩; have n0_ := Aside0.mk (Kd.R_below (by (with_reducible repeat (first | apply Kd.R_alloc | apply Kd.R_drewN | apply Kd.R_drew)); exact HO_7.out) hb); have n1_ := Aside0.mk (Kd.R_lower ho0 (below_size (by repeat (first | (with_reducible first | exact HB.out | apply below_alloc | apply pw_below_drewN | apply below_drew1 | refine below_set ?_ (IsS120.ge HI562.out)) | exact HB.out)))); have n2_ := Aside0.mk (IsS120.below (by repeat (first | (with_reducible first | exact HI562.out | apply IsS120.alloc | apply IsS120.drewN | apply IsS120.drew | apply IsS120.set_0 | apply IsS120.set_1) | exact HI562.out)) hb); have n3_ := Aside0.mk (below_step (by repeat (first | (with_reducible first | exact HB.out | apply below_alloc | apply pw_below_drewN | apply below_drew1 | refine below_set ?_ (IsS120.ge HI562.out)) | exact HB.out)) hb); clear HO_7; clear HI562; clear HB; have HO_7 := n0_; have HO569 := n1_; have HI562 := n2_; have HB := n3_; clear n0_ n1_ n2_ n3_; (try clear hb); (try clear hb2); (try clear hk); (try clear hi); (try clear ho0)))
                go_ret2
                exact ⟨_, by first | rfl | (simp [errW_none, errW_some] <;> rfl) | (simp [*, errW_none, errW_some] <;> rfl), by first | exact Kd.R_nil _ _ _ _ _ | exact Kd.N_nil _ _ _ _ _ | exact Kd.V_nil _ _ _ _ _ | exact Kd.Q_nil _ _ _ _ _ | exact Kd.S_nil _ _ _ _ _, by repeat (first | (with_reducible first | exact HB.out | apply below_alloc | apply pw_below_drewN | apply below_drew1 | refine below_set ?_ (IsS120.ge HI562.out)) | exact HB.out)⟩
              · rw [if_neg c38] at H
                have c38b0 : decide (0 < x8_1) = false := decide_eq_false c38
                clear c38
                simp only [Option.some.injEq, Prod.mk.injEq] at H
                obtain ⟨rfl, rfl⟩ := H
                go_wp2_with (first | ((with_reducible refine gate_callee (f := 83) rfl ?_); refine goesL_ (some 23) rfl rfl Try.func83 (by kernel_rfl) rfl #[.pointer (some ⟨g562, 0, none⟩)] rfl (by (try simp only [List.map_toArray, List.map_cons, List.map_nil]); first | done | rfl | (simp only [List.length_drop, List.length_take]; rfl)) ?_; (with_reducible refine (pack_Reader_Left.calls g562 x563000_1 x563001_1 t563 t564 t565 w _ ?side1 ?side2 A7.out).mono ?_); (case side1 => repeat (first | (with_reducible first | exact HI562.out | apply IsS120.alloc | apply IsS120.drewN | apply IsS120.drew | apply IsS120.set_0 | apply IsS120.set_1) | exact HI562.out)); (case side2 => repeat (first | (with_reducible first | exact HB.out | apply below_alloc | apply pw_below_drewN | apply below_drew1 | refine below_set ?_ (IsS120.ge HI562.out)) | exact HB.out)); rintro e w42 ⟨rfl, hi, hb, hk⟩; refine ⟨_, rfl, ?_⟩; have n0_ := Aside0.mk (Kd.R_mono (Kd.R_keep (IsS120.apart (show IsS120 w _ g562 x563000_1 x563001_1 from by repeat (first | (with_reducible first | exact HI562.out | apply IsS120.alloc | apply IsS120.drewN | apply IsS120.drew | apply IsS120.set_0 | apply IsS120.set_1) | exact HI562.out)) (by (with_reducible repeat (first | apply Kd.R_alloc | apply Kd.R_drewN | apply Kd.R_drew)); exact HO_7.out) (by decide)) hk (fun _ h => h.2)) (fun _ h => h.1)); have n1_ := Aside0.mk (hb); have n2_ := Aside0.mk (hi); clear HO_7; clear HB; clear HI562; have HO_7 := n0_; have HB := n1_; have HI562 := n2_; clear n0_ n1_ n2_; (try clear hb); (try clear hb2); (try clear hk); (try clear hi); obtain ⟨Ao43, co43, eo43⟩ := Kd.R_slice HO_7.out; subst eo43) | ((with_reducible refine gate_callee (f := 52) rfl ?_); refine goesL_ (some 57) rfl rfl Try.func52 (by kernel_rfl) rfl #[.slice Ao43 x7_1.length co43, .int .i64 a1] rfl (by (try simp only [List.map_toArray, List.map_cons, List.map_nil]); first | done | rfl | (simp only [List.length_drop, List.length_take]; rfl)) ?_; (with_reducible refine (flags_Spread.calls k1 _ _ x7_1 a1 t566 true _ ?side1 ?side2 A36.out).mono ?_); (case side1 => repeat (first | exact (Kd.R_reads' HO_7.out).2.2 | (with_reducible refine Kd.C_alloc ?_ _) | (with_reducible refine Kd.C_drewN ?_ _) | (with_reducible refine Kd.C_drew ?_))); (case side2 => exact (Kd.R_reads' HO_7.out).2.1); rintro e w44 ⟨v568, rfl, ho0, hb⟩; refine ⟨_, rfl, ?_⟩; have n0_ := Aside0.mk (Kd.R_below (by (with_reducible repeat (first | apply Kd.R_alloc | apply Kd.R_drewN | apply Kd.R_drew)); exact HO_7.out) hb); have n1_ := Aside0.mk (Kd.R_lower ho0 (below_size (by repeat (first | (with_reducible first | exact HB.out | apply below_alloc | apply pw_below_drewN | apply below_drew1 | refine below_set ?_ (IsS120.ge HI562.out)) | exact HB.out)))); have n2_ := Aside0.mk (IsS120.below (by repeat (first | (with_reducible first | exact HI562.out | apply IsS120.alloc | apply IsS120.drewN | apply IsS120.drew | apply IsS120.set_0 | apply IsS120.set_1) | exact HI562.out)) hb); have n3_ := Aside0.mk (below_step (by repeat (first | (with_reducible first | exact HB.out | apply below_alloc | apply pw_below_drewN | apply below_drew1 | refine below_set ?_ (IsS120.ge HI562.out)) | exact HB.out)) hb); clear HO_7; clear HI562; clear HB; have HO_7 := n0_; have HO569 := n1_; have HI562 := n2_; have HB := n3_; clear n0_ n1_ n2_ n3_; (try clear hb); (try clear hb2); (try clear hk); (try clear hi); (try clear ho0)))
                go_ret2
                exact ⟨_, by first | rfl | (simp [errW_none, errW_some] <;> rfl) | (simp [*, errW_none, errW_some] <;> rfl), by (with_reducible repeat (first | apply Kd.R_alloc | apply Kd.R_drewN | apply Kd.R_drew)); exact HO569.out, by repeat (first | (with_reducible first | exact HB.out | apply below_alloc | apply pw_below_drewN | apply below_drew1 | refine below_set ?_ (IsS120.ge HI562.out)) | exact HB.out)⟩
            · replace c37 := Bool.eq_false_iff.mpr c37
              subst c37
              have H1 : (some (([] : List Bool), 5)) = some (r1, r2) := by rw [if_neg (show ¬ (false = true) by decide)] at H; exact H
              clear H
              have H := H1
              clear H1
              simp only [Option.some.injEq, Prod.mk.injEq] at H
              obtain ⟨rfl, rfl⟩ := H
              go_wp2_with (first | ((with_reducible refine gate_callee (f := 83) rfl ?_); refine goesL_ (some 23) rfl rfl Try.func83 (by kernel_rfl) rfl #[.pointer (some ⟨g562, 0, none⟩)] rfl (by (try simp only [List.map_toArray, List.map_cons, List.map_nil]); first | done | rfl | (simp only [List.length_drop, List.length_take]; rfl)) ?_; (with_reducible refine (pack_Reader_Left.calls g562 x563000_1 x563001_1 t563 t564 t565 w _ ?side1 ?side2 A7.out).mono ?_); (case side1 => repeat (first | (with_reducible first | exact HI562.out | apply IsS120.alloc | apply IsS120.drewN | apply IsS120.drew | apply IsS120.set_0 | apply IsS120.set_1) | exact HI562.out)); (case side2 => repeat (first | (with_reducible first | exact HB.out | apply below_alloc | apply pw_below_drewN | apply below_drew1 | refine below_set ?_ (IsS120.ge HI562.out)) | exact HB.out)); rintro e w45 ⟨rfl, hi, hb, hk⟩; refine ⟨_, rfl, ?_⟩; have n0_ := Aside0.mk (Kd.R_mono (Kd.R_keep (IsS120.apart (show IsS120 w _ g562 x563000_1 x563001_1 from by repeat (first | (with_reducible first | exact HI562.out | apply IsS120.alloc | apply IsS120.drewN | apply IsS120.drew | apply IsS120.set_0 | apply IsS120.set_1) | exact HI562.out)) (by (with_reducible repeat (first | apply Kd.R_alloc | apply Kd.R_drewN | apply Kd.R_drew)); exact HO_7.out) (by decide)) hk (fun _ h => h.2)) (fun _ h => h.1)); have n1_ := Aside0.mk (hb); have n2_ := Aside0.mk (hi); clear HO_7; clear HB; clear HI562; have HO_7 := n0_; have HB := n1_; have HI562 := n2_; clear n0_ n1_ n2_; (try clear hb); (try clear hb2); (try clear hk); (try clear hi); obtain ⟨Ao46, co46, eo46⟩ := Kd.R_slice HO_7.out; subst eo46) | ((with_reducible refine gate_callee (f := 52) rfl ?_); refine goesL_ (some 57) rfl rfl Try.func52 (by kernel_rfl) rfl #[.slice Ao46 x7_1.length co46, .int .i64 a1] rfl (by (try simp only [List.map_toArray, List.map_cons, List.map_nil]); first | done | rfl | (simp only [List.length_drop, List.length_take]; rfl)) ?_; (with_reducible refine (flags_Spread.calls k1 _ _ x7_1 a1 t566 false _ ?side1 ?side2 A36.out).mono ?_); (case side1 => repeat (first | exact (Kd.R_reads' HO_7.out).2.2 | (with_reducible refine Kd.C_alloc ?_ _) | (with_reducible refine Kd.C_drewN ?_ _) | (with_reducible refine Kd.C_drew ?_))); (case side2 => exact (Kd.R_reads' HO_7.out).2.1); rintro e w47 ⟨v568, rfl, ho0, hb⟩; refine ⟨_, rfl, ?_⟩; have n0_ := Aside0.mk (Kd.R_below (by (with_reducible repeat (first | apply Kd.R_alloc | apply Kd.R_drewN | apply Kd.R_drew)); exact HO_7.out) hb); have n1_ := Aside0.mk (Kd.R_lower ho0 (below_size (by repeat (first | (with_reducible first | exact HB.out | apply below_alloc | apply pw_below_drewN | apply below_drew1 | refine below_set ?_ (IsS120.ge HI562.out)) | exact HB.out)))); have n2_ := Aside0.mk (IsS120.below (by repeat (first | (with_reducible first | exact HI562.out | apply IsS120.alloc | apply IsS120.drewN | apply IsS120.drew | apply IsS120.set_0 | apply IsS120.set_1) | exact HI562.out)) hb); have n3_ := Aside0.mk (below_step (by repeat (first | (with_reducible first | exact HB.out | apply below_alloc | apply pw_below_drewN | apply below_drew1 | refine below_set ?_ (IsS120.ge HI562.out)) | exact HB.out)) hb); clear HO_7; clear HI562; clear HB; have HO_7 := n0_; have HO569 := n1_; have HI562 := n2_; have HB := n3_; clear n0_ n1_ n2_ n3_; (try clear hb); (try clear hb2); (try clear hk); (try clear hi); (try clear ho0)))
              go_ret2
              exact ⟨_, by first | rfl | (simp [errW_none, errW_some] <;> rfl) | (simp [*, errW_none, errW_some] <;> rfl), by first | exact Kd.R_nil _ _ _ _ _ | exact Kd.N_nil _ _ _ _ _ | exact Kd.V_nil _ _ _ _ _ | exact Kd.Q_nil _ _ _ _ _ | exact Kd.S_nil _ _ _ _ _, by repeat (first | (with_reducible first | exact HB.out | apply below_alloc | apply pw_below_drewN | apply below_drew1 | refine below_set ?_ (IsS120.ge HI562.out)) | exact HB.out)⟩
def bonsailaw07_live.f (k : Nat)  : Option (Bool) := (some (([true, true, false] : List Bool) : List Bool)).bind fun y582 => ((flags_Encode.f k y582).bind fun t585 => ((flags_Decode.f k t585 3).bind fun bt586 => ((flags_Decode.f k t585 2).bind fun bt590 => ((flags_Decode.f k (⟨#[1, 0, 1]⟩ : ByteArray) 2).bind fun bt594 => ((flags_Decode.f k (⟨#[0]⟩ : ByteArray) 0).bind fun bt598 => ((flags_Spread.f k (([0, 2, 1] : List Int)) 3).bind fun bt605 => ((flags_Spread.f k (([0, 2, 1] : List Int)) 2).bind fun bt612 => ((flags_Spread.f k (([1, 0, 1] : List Int)) 9).bind fun bt619 => (if t585.toList = ([0, 2, 1] : List UInt8) then ((bonsairef07_Same.f k bt586.1 y582).bind fun t623 => (if t623 = true then (if bt586.2 = 0 then (if bt590.2 = 5 then (if bt594.2 = 5 then (if bt598.2 = 5 then ((bonsairef07_Same.f k bt605.1 y582).bind fun t624 => (if t624 = true then (if bt605.2 = true then (if bt612.2 = true then (none) else (if bt619.2 = true then (none) else ((flags_Lengths.f k y582).bind fun t625 => ((bonsairef05_Same.f k t625 (([0, 2, 1] : List Int))).bind fun t631 => (if t631 = true then ((flags_Lengths.f k ([] : List Bool)).bind fun t632 => (if (t632.length : Int) = 0 then ((flags_Count.f k y582).bind fun t635 => (some (t635 == 2))) else (none))) else (none)))))) else (none)) else (none))) else (none)) else (none)) else (none)) else (none)) else (none))) else (none))))))))))
theorem bonsailaw07_live.mono : ∀ k, LeO (bonsailaw07_live.f k ) (bonsailaw07_live.f (k + 1) ) := by
  intro  k
  unfold bonsailaw07_live.f
  repeat' first
      | (with_reducible exact bonsairef05_Same.mono _ _ _)
      | (with_reducible exact bonsairef07_Same.mono _ _ _)
      | (with_reducible exact flags_Count.mono _ _)
      | (with_reducible exact flags_Decode.mono _ _ _)
      | (with_reducible exact flags_Encode.mono _ _)
      | (with_reducible exact flags_Lengths.mono _ _)
      | (with_reducible exact flags_Spread.mono _ _ _)
      | (with_reducible exact LeO.refl _)
      | (with_reducible exact LeO.none _)
      | (with_reducible refine LeO.ite ?_ ?_)
      | (with_reducible refine LeO.bind ?_ (fun _ => ?_))
      | exact bonsairef05_Same.mono _ _ _
      | exact bonsairef07_Same.mono _ _ _
      | exact flags_Count.mono _ _
      | exact flags_Decode.mono _ _ _
      | exact flags_Encode.mono _ _
      | exact flags_Lengths.mono _ _
      | exact flags_Spread.mono _ _ _
      | exact LeO.none _
      | refine LeO.ite ?_ ?_
      | refine LeO.bind ?_ (fun _ => ?_)
set_option maxHeartbeats 8000000 in
set_option maxRecDepth 100000 in
theorem bonsailaw07_live.calls (k : Nat)  (r : Bool) (w : World) (h : bonsailaw07_live.f k  = some r) :
    Calls Try.prog 51 #[] w fun e w' => e = .returned (.bool r) ∧ Below w.heap.size w w' := by
  have HB := Aside0.mk (Below.refl w.heap.size w)
  have H : ((some (([true, true, false] : List Bool) : List Bool)).bind fun y582 => ((flags_Encode.f k y582).bind fun t585 => ((flags_Decode.f k t585 3).bind fun bt586 => ((flags_Decode.f k t585 2).bind fun bt590 => ((flags_Decode.f k (⟨#[1, 0, 1]⟩ : ByteArray) 2).bind fun bt594 => ((flags_Decode.f k (⟨#[0]⟩ : ByteArray) 0).bind fun bt598 => ((flags_Spread.f k (([0, 2, 1] : List Int)) 3).bind fun bt605 => ((flags_Spread.f k (([0, 2, 1] : List Int)) 2).bind fun bt612 => ((flags_Spread.f k (([1, 0, 1] : List Int)) 9).bind fun bt619 => (if t585.toList = ([0, 2, 1] : List UInt8) then ((bonsairef07_Same.f k bt586.1 y582).bind fun t623 => (if t623 = true then (if bt586.2 = 0 then (if bt590.2 = 5 then (if bt594.2 = 5 then (if bt598.2 = 5 then ((bonsairef07_Same.f k bt605.1 y582).bind fun t624 => (if t624 = true then (if bt605.2 = true then (if bt612.2 = true then (none) else (if bt619.2 = true then (none) else ((flags_Lengths.f k y582).bind fun t625 => ((bonsairef05_Same.f k t625 (([0, 2, 1] : List Int))).bind fun t631 => (if t631 = true then ((flags_Lengths.f k ([] : List Bool)).bind fun t632 => (if (t632.length : Int) = 0 then ((flags_Count.f k y582).bind fun t635 => (some (t635 == 2))) else (none))) else (none)))))) else (none)) else (none))) else (none)) else (none)) else (none)) else (none)) else (none))) else (none))))))))))) = some r := h
  clear h
  obtain ⟨y582, hy582⟩ : ∃ y_ : List Bool, y_ = (([true, true, false] : List Bool)) := ⟨_, rfl⟩
  replace H : ((flags_Encode.f k y582).bind fun t585 => ((flags_Decode.f k t585 3).bind fun bt586 => ((flags_Decode.f k t585 2).bind fun bt590 => ((flags_Decode.f k (⟨#[1, 0, 1]⟩ : ByteArray) 2).bind fun bt594 => ((flags_Decode.f k (⟨#[0]⟩ : ByteArray) 0).bind fun bt598 => ((flags_Spread.f k (([0, 2, 1] : List Int)) 3).bind fun bt605 => ((flags_Spread.f k (([0, 2, 1] : List Int)) 2).bind fun bt612 => ((flags_Spread.f k (([1, 0, 1] : List Int)) 9).bind fun bt619 => (if t585.toList = ([0, 2, 1] : List UInt8) then ((bonsairef07_Same.f k bt586.1 y582).bind fun t623 => (if t623 = true then (if bt586.2 = 0 then (if bt590.2 = 5 then (if bt594.2 = 5 then (if bt598.2 = 5 then ((bonsairef07_Same.f k bt605.1 y582).bind fun t624 => (if t624 = true then (if bt605.2 = true then (if bt612.2 = true then (none) else (if bt619.2 = true then (none) else ((flags_Lengths.f k y582).bind fun t625 => ((bonsairef05_Same.f k t625 (([0, 2, 1] : List Int))).bind fun t631 => (if t631 = true then ((flags_Lengths.f k ([] : List Bool)).bind fun t632 => (if (t632.length : Int) = 0 then ((flags_Count.f k y582).bind fun t635 => (some (t635 == 2))) else (none))) else (none)))))) else (none)) else (none))) else (none)) else (none)) else (none)) else (none)) else (none))) else (none)))))))))) = some r := by first | (rw [hy582]; with_reducible exact H) | (have H2_ := (Option.bind_some _ _).symm.trans H; rw [hy582]; with_reducible exact H2_) | (have H2_ := (Option.bind_some _ _).symm.trans H; with_reducible exact H2_) | with_reducible exact H | (rw [hy582]; exact H) | exact H
  have Ny582 := Aside0.mk hy582
  clear hy582
  replace H := Option.bind_eq_some_iff.mp H
  obtain ⟨t585, A10, H⟩ := H
  replace H : ((flags_Decode.f k t585 3).bind fun bt586 => ((flags_Decode.f k t585 2).bind fun bt590 => ((flags_Decode.f k (⟨#[1, 0, 1]⟩ : ByteArray) 2).bind fun bt594 => ((flags_Decode.f k (⟨#[0]⟩ : ByteArray) 0).bind fun bt598 => ((flags_Spread.f k (([0, 2, 1] : List Int)) 3).bind fun bt605 => ((flags_Spread.f k (([0, 2, 1] : List Int)) 2).bind fun bt612 => ((flags_Spread.f k (([1, 0, 1] : List Int)) 9).bind fun bt619 => (if t585.toList = ([0, 2, 1] : List UInt8) then ((bonsairef07_Same.f k bt586.1 y582).bind fun t623 => (if t623 = true then (if bt586.2 = 0 then (if bt590.2 = 5 then (if bt594.2 = 5 then (if bt598.2 = 5 then ((bonsairef07_Same.f k bt605.1 y582).bind fun t624 => (if t624 = true then (if bt605.2 = true then (if bt612.2 = true then (none) else (if bt619.2 = true then (none) else ((flags_Lengths.f k y582).bind fun t625 => ((bonsairef05_Same.f k t625 (([0, 2, 1] : List Int))).bind fun t631 => (if t631 = true then ((flags_Lengths.f k ([] : List Bool)).bind fun t632 => (if (t632.length : Int) = 0 then ((flags_Count.f k y582).bind fun t635 => (some (t635 == 2))) else (none))) else (none)))))) else (none)) else (none))) else (none)) else (none)) else (none)) else (none)) else (none))) else (none))))))))) = some r := H
  have A1 := Aside0.mk A10
  clear A10
  replace H := Option.bind_eq_some_iff.mp H
  obtain ⟨⟨t586, t587⟩, A20, H⟩ := H
  replace H : ((flags_Decode.f k t585 2).bind fun bt590 => ((flags_Decode.f k (⟨#[1, 0, 1]⟩ : ByteArray) 2).bind fun bt594 => ((flags_Decode.f k (⟨#[0]⟩ : ByteArray) 0).bind fun bt598 => ((flags_Spread.f k (([0, 2, 1] : List Int)) 3).bind fun bt605 => ((flags_Spread.f k (([0, 2, 1] : List Int)) 2).bind fun bt612 => ((flags_Spread.f k (([1, 0, 1] : List Int)) 9).bind fun bt619 => (if t585.toList = ([0, 2, 1] : List UInt8) then ((bonsairef07_Same.f k t586 y582).bind fun t623 => (if t623 = true then (if t587 = 0 then (if bt590.2 = 5 then (if bt594.2 = 5 then (if bt598.2 = 5 then ((bonsairef07_Same.f k bt605.1 y582).bind fun t624 => (if t624 = true then (if bt605.2 = true then (if bt612.2 = true then (none) else (if bt619.2 = true then (none) else ((flags_Lengths.f k y582).bind fun t625 => ((bonsairef05_Same.f k t625 (([0, 2, 1] : List Int))).bind fun t631 => (if t631 = true then ((flags_Lengths.f k ([] : List Bool)).bind fun t632 => (if (t632.length : Int) = 0 then ((flags_Count.f k y582).bind fun t635 => (some (t635 == 2))) else (none))) else (none)))))) else (none)) else (none))) else (none)) else (none)) else (none)) else (none)) else (none))) else (none)))))))) = some r := H
  have A2 := Aside0.mk A20
  clear A20
  replace H := Option.bind_eq_some_iff.mp H
  obtain ⟨⟨t590, t591⟩, A30, H⟩ := H
  replace H : ((flags_Decode.f k (⟨#[1, 0, 1]⟩ : ByteArray) 2).bind fun bt594 => ((flags_Decode.f k (⟨#[0]⟩ : ByteArray) 0).bind fun bt598 => ((flags_Spread.f k (([0, 2, 1] : List Int)) 3).bind fun bt605 => ((flags_Spread.f k (([0, 2, 1] : List Int)) 2).bind fun bt612 => ((flags_Spread.f k (([1, 0, 1] : List Int)) 9).bind fun bt619 => (if t585.toList = ([0, 2, 1] : List UInt8) then ((bonsairef07_Same.f k t586 y582).bind fun t623 => (if t623 = true then (if t587 = 0 then (if t591 = 5 then (if bt594.2 = 5 then (if bt598.2 = 5 then ((bonsairef07_Same.f k bt605.1 y582).bind fun t624 => (if t624 = true then (if bt605.2 = true then (if bt612.2 = true then (none) else (if bt619.2 = true then (none) else ((flags_Lengths.f k y582).bind fun t625 => ((bonsairef05_Same.f k t625 (([0, 2, 1] : List Int))).bind fun t631 => (if t631 = true then ((flags_Lengths.f k ([] : List Bool)).bind fun t632 => (if (t632.length : Int) = 0 then ((flags_Count.f k y582).bind fun t635 => (some (t635 == 2))) else (none))) else (none)))))) else (none)) else (none))) else (none)) else (none)) else (none)) else (none)) else (none))) else (none))))))) = some r := H
  have A3 := Aside0.mk A30
  clear A30
  replace H := Option.bind_eq_some_iff.mp H
  obtain ⟨⟨t594, t595⟩, A40, H⟩ := H
  replace H : ((flags_Decode.f k (⟨#[0]⟩ : ByteArray) 0).bind fun bt598 => ((flags_Spread.f k (([0, 2, 1] : List Int)) 3).bind fun bt605 => ((flags_Spread.f k (([0, 2, 1] : List Int)) 2).bind fun bt612 => ((flags_Spread.f k (([1, 0, 1] : List Int)) 9).bind fun bt619 => (if t585.toList = ([0, 2, 1] : List UInt8) then ((bonsairef07_Same.f k t586 y582).bind fun t623 => (if t623 = true then (if t587 = 0 then (if t591 = 5 then (if t595 = 5 then (if bt598.2 = 5 then ((bonsairef07_Same.f k bt605.1 y582).bind fun t624 => (if t624 = true then (if bt605.2 = true then (if bt612.2 = true then (none) else (if bt619.2 = true then (none) else ((flags_Lengths.f k y582).bind fun t625 => ((bonsairef05_Same.f k t625 (([0, 2, 1] : List Int))).bind fun t631 => (if t631 = true then ((flags_Lengths.f k ([] : List Bool)).bind fun t632 => (if (t632.length : Int) = 0 then ((flags_Count.f k y582).bind fun t635 => (some (t635 == 2))) else (none))) else (none)))))) else (none)) else (none))) else (none)) else (none)) else (none)) else (none)) else (none))) else (none)))))) = some r := H
  have A4 := Aside0.mk A40
  clear A40
  replace H := Option.bind_eq_some_iff.mp H
  obtain ⟨⟨t598, t599⟩, A50, H⟩ := H
  replace H : ((flags_Spread.f k (([0, 2, 1] : List Int)) 3).bind fun bt605 => ((flags_Spread.f k (([0, 2, 1] : List Int)) 2).bind fun bt612 => ((flags_Spread.f k (([1, 0, 1] : List Int)) 9).bind fun bt619 => (if t585.toList = ([0, 2, 1] : List UInt8) then ((bonsairef07_Same.f k t586 y582).bind fun t623 => (if t623 = true then (if t587 = 0 then (if t591 = 5 then (if t595 = 5 then (if t599 = 5 then ((bonsairef07_Same.f k bt605.1 y582).bind fun t624 => (if t624 = true then (if bt605.2 = true then (if bt612.2 = true then (none) else (if bt619.2 = true then (none) else ((flags_Lengths.f k y582).bind fun t625 => ((bonsairef05_Same.f k t625 (([0, 2, 1] : List Int))).bind fun t631 => (if t631 = true then ((flags_Lengths.f k ([] : List Bool)).bind fun t632 => (if (t632.length : Int) = 0 then ((flags_Count.f k y582).bind fun t635 => (some (t635 == 2))) else (none))) else (none)))))) else (none)) else (none))) else (none)) else (none)) else (none)) else (none)) else (none))) else (none))))) = some r := H
  have A5 := Aside0.mk A50
  clear A50
  obtain ⟨y602, hy602⟩ : ∃ y_ : List Int, y_ = (([0, 2, 1] : List Int)) := ⟨_, rfl⟩
  replace H : ((flags_Spread.f k y602 3).bind fun bt605 => ((flags_Spread.f k (([0, 2, 1] : List Int)) 2).bind fun bt612 => ((flags_Spread.f k (([1, 0, 1] : List Int)) 9).bind fun bt619 => (if t585.toList = ([0, 2, 1] : List UInt8) then ((bonsairef07_Same.f k t586 y582).bind fun t623 => (if t623 = true then (if t587 = 0 then (if t591 = 5 then (if t595 = 5 then (if t599 = 5 then ((bonsairef07_Same.f k bt605.1 y582).bind fun t624 => (if t624 = true then (if bt605.2 = true then (if bt612.2 = true then (none) else (if bt619.2 = true then (none) else ((flags_Lengths.f k y582).bind fun t625 => ((bonsairef05_Same.f k t625 (([0, 2, 1] : List Int))).bind fun t631 => (if t631 = true then ((flags_Lengths.f k ([] : List Bool)).bind fun t632 => (if (t632.length : Int) = 0 then ((flags_Count.f k y582).bind fun t635 => (some (t635 == 2))) else (none))) else (none)))))) else (none)) else (none))) else (none)) else (none)) else (none)) else (none)) else (none))) else (none))))) = some r := by first | (rw [hy602]; with_reducible exact H) | (have H2_ := (Option.bind_some _ _).symm.trans H; rw [hy602]; with_reducible exact H2_) | (have H2_ := (Option.bind_some _ _).symm.trans H; with_reducible exact H2_) | with_reducible exact H | (rw [hy602]; exact H) | exact H
  have Ny602 := Aside0.mk hy602
  clear hy602
  replace H := Option.bind_eq_some_iff.mp H
  obtain ⟨⟨t605, t606⟩, A60, H⟩ := H
  replace H : ((flags_Spread.f k (([0, 2, 1] : List Int)) 2).bind fun bt612 => ((flags_Spread.f k (([1, 0, 1] : List Int)) 9).bind fun bt619 => (if t585.toList = ([0, 2, 1] : List UInt8) then ((bonsairef07_Same.f k t586 y582).bind fun t623 => (if t623 = true then (if t587 = 0 then (if t591 = 5 then (if t595 = 5 then (if t599 = 5 then ((bonsairef07_Same.f k t605 y582).bind fun t624 => (if t624 = true then (if t606 = true then (if bt612.2 = true then (none) else (if bt619.2 = true then (none) else ((flags_Lengths.f k y582).bind fun t625 => ((bonsairef05_Same.f k t625 (([0, 2, 1] : List Int))).bind fun t631 => (if t631 = true then ((flags_Lengths.f k ([] : List Bool)).bind fun t632 => (if (t632.length : Int) = 0 then ((flags_Count.f k y582).bind fun t635 => (some (t635 == 2))) else (none))) else (none)))))) else (none)) else (none))) else (none)) else (none)) else (none)) else (none)) else (none))) else (none)))) = some r := H
  have A6 := Aside0.mk A60
  clear A60
  obtain ⟨y609, hy609⟩ : ∃ y_ : List Int, y_ = (([0, 2, 1] : List Int)) := ⟨_, rfl⟩
  replace H : ((flags_Spread.f k y609 2).bind fun bt612 => ((flags_Spread.f k (([1, 0, 1] : List Int)) 9).bind fun bt619 => (if t585.toList = ([0, 2, 1] : List UInt8) then ((bonsairef07_Same.f k t586 y582).bind fun t623 => (if t623 = true then (if t587 = 0 then (if t591 = 5 then (if t595 = 5 then (if t599 = 5 then ((bonsairef07_Same.f k t605 y582).bind fun t624 => (if t624 = true then (if t606 = true then (if bt612.2 = true then (none) else (if bt619.2 = true then (none) else ((flags_Lengths.f k y582).bind fun t625 => ((bonsairef05_Same.f k t625 (([0, 2, 1] : List Int))).bind fun t631 => (if t631 = true then ((flags_Lengths.f k ([] : List Bool)).bind fun t632 => (if (t632.length : Int) = 0 then ((flags_Count.f k y582).bind fun t635 => (some (t635 == 2))) else (none))) else (none)))))) else (none)) else (none))) else (none)) else (none)) else (none)) else (none)) else (none))) else (none)))) = some r := by first | (rw [hy609]; with_reducible exact H) | (have H2_ := (Option.bind_some _ _).symm.trans H; rw [hy609]; with_reducible exact H2_) | (have H2_ := (Option.bind_some _ _).symm.trans H; with_reducible exact H2_) | with_reducible exact H | (rw [hy609]; exact H) | exact H
  have Ny609 := Aside0.mk hy609
  clear hy609
  replace H := Option.bind_eq_some_iff.mp H
  obtain ⟨⟨t612, t613⟩, A70, H⟩ := H
  replace H : ((flags_Spread.f k (([1, 0, 1] : List Int)) 9).bind fun bt619 => (if t585.toList = ([0, 2, 1] : List UInt8) then ((bonsairef07_Same.f k t586 y582).bind fun t623 => (if t623 = true then (if t587 = 0 then (if t591 = 5 then (if t595 = 5 then (if t599 = 5 then ((bonsairef07_Same.f k t605 y582).bind fun t624 => (if t624 = true then (if t606 = true then (if t613 = true then (none) else (if bt619.2 = true then (none) else ((flags_Lengths.f k y582).bind fun t625 => ((bonsairef05_Same.f k t625 (([0, 2, 1] : List Int))).bind fun t631 => (if t631 = true then ((flags_Lengths.f k ([] : List Bool)).bind fun t632 => (if (t632.length : Int) = 0 then ((flags_Count.f k y582).bind fun t635 => (some (t635 == 2))) else (none))) else (none)))))) else (none)) else (none))) else (none)) else (none)) else (none)) else (none)) else (none))) else (none))) = some r := H
  have A7 := Aside0.mk A70
  clear A70
  obtain ⟨y616, hy616⟩ : ∃ y_ : List Int, y_ = (([1, 0, 1] : List Int)) := ⟨_, rfl⟩
  replace H : ((flags_Spread.f k y616 9).bind fun bt619 => (if t585.toList = ([0, 2, 1] : List UInt8) then ((bonsairef07_Same.f k t586 y582).bind fun t623 => (if t623 = true then (if t587 = 0 then (if t591 = 5 then (if t595 = 5 then (if t599 = 5 then ((bonsairef07_Same.f k t605 y582).bind fun t624 => (if t624 = true then (if t606 = true then (if t613 = true then (none) else (if bt619.2 = true then (none) else ((flags_Lengths.f k y582).bind fun t625 => ((bonsairef05_Same.f k t625 (([0, 2, 1] : List Int))).bind fun t631 => (if t631 = true then ((flags_Lengths.f k ([] : List Bool)).bind fun t632 => (if (t632.length : Int) = 0 then ((flags_Count.f k y582).bind fun t635 => (some (t635 == 2))) else (none))) else (none)))))) else (none)) else (none))) else (none)) else (none)) else (none)) else (none)) else (none))) else (none))) = some r := by first | (rw [hy616]; with_reducible exact H) | (have H2_ := (Option.bind_some _ _).symm.trans H; rw [hy616]; with_reducible exact H2_) | (have H2_ := (Option.bind_some _ _).symm.trans H; with_reducible exact H2_) | with_reducible exact H | (rw [hy616]; exact H) | exact H
  have Ny616 := Aside0.mk hy616
  clear hy616
  replace H := Option.bind_eq_some_iff.mp H
  obtain ⟨⟨t619, t620⟩, A80, H⟩ := H
  replace H : (if t585.toList = ([0, 2, 1] : List UInt8) then ((bonsairef07_Same.f k t586 y582).bind fun t623 => (if t623 = true then (if t587 = 0 then (if t591 = 5 then (if t595 = 5 then (if t599 = 5 then ((bonsairef07_Same.f k t605 y582).bind fun t624 => (if t624 = true then (if t606 = true then (if t613 = true then (none) else (if t620 = true then (none) else ((flags_Lengths.f k y582).bind fun t625 => ((bonsairef05_Same.f k t625 (([0, 2, 1] : List Int))).bind fun t631 => (if t631 = true then ((flags_Lengths.f k ([] : List Bool)).bind fun t632 => (if (t632.length : Int) = 0 then ((flags_Count.f k y582).bind fun t635 => (some (t635 == 2))) else (none))) else (none)))))) else (none)) else (none))) else (none)) else (none)) else (none)) else (none)) else (none))) else (none)) = some r := H
  have A8 := Aside0.mk A80
  clear A80
  by_cases c9 : t585.toList = ([0, 2, 1] : List UInt8)
  · rw [if_pos c9] at H
    have c9b0 : (t585.toList == ([0, 2, 1] : List UInt8)) = true := beq_iff_eq.mpr c9
    have c9b1 : (t585.toList != ([0, 2, 1] : List UInt8)) = false := bne_eq_false_iff_eq.mpr c9
    clear c9
    replace H := Option.bind_eq_some_iff.mp H
    obtain ⟨t623, A100, H⟩ := H
    replace H : (if t623 = true then (if t587 = 0 then (if t591 = 5 then (if t595 = 5 then (if t599 = 5 then ((bonsairef07_Same.f k t605 y582).bind fun t624 => (if t624 = true then (if t606 = true then (if t613 = true then (none) else (if t620 = true then (none) else ((flags_Lengths.f k y582).bind fun t625 => ((bonsairef05_Same.f k t625 (([0, 2, 1] : List Int))).bind fun t631 => (if t631 = true then ((flags_Lengths.f k ([] : List Bool)).bind fun t632 => (if (t632.length : Int) = 0 then ((flags_Count.f k y582).bind fun t635 => (some (t635 == 2))) else (none))) else (none)))))) else (none)) else (none))) else (none)) else (none)) else (none)) else (none)) else (none)) = some r := H
    have A10 := Aside0.mk A100
    clear A100
    by_cases c11 : t623 = true
    · subst c11
      have H1 : (if t587 = 0 then (if t591 = 5 then (if t595 = 5 then (if t599 = 5 then ((bonsairef07_Same.f k t605 y582).bind fun t624 => (if t624 = true then (if t606 = true then (if t613 = true then (none) else (if t620 = true then (none) else ((flags_Lengths.f k y582).bind fun t625 => ((bonsairef05_Same.f k t625 (([0, 2, 1] : List Int))).bind fun t631 => (if t631 = true then ((flags_Lengths.f k ([] : List Bool)).bind fun t632 => (if (t632.length : Int) = 0 then ((flags_Count.f k y582).bind fun t635 => (some (t635 == 2))) else (none))) else (none)))))) else (none)) else (none))) else (none)) else (none)) else (none)) else (none)) = some r := by rw [if_pos rfl] at H; exact H
      clear H
      have H := H1
      clear H1
      by_cases c12 : t587 = 0
      · rw [if_pos c12] at H
        have c12b0 : (t587 == 0) = true := beq_iff_eq.mpr c12
        have c12b1 : (t587 != 0) = false := bne_eq_false_iff_eq.mpr c12
        clear c12
        by_cases c13 : t591 = 5
        · rw [if_pos c13] at H
          have c13b0 : (t591 == 5) = true := beq_iff_eq.mpr c13
          have c13b1 : (t591 != 5) = false := bne_eq_false_iff_eq.mpr c13
          clear c13
          by_cases c14 : t595 = 5
          · rw [if_pos c14] at H
            have c14b0 : (t595 == 5) = true := beq_iff_eq.mpr c14
            have c14b1 : (t595 != 5) = false := bne_eq_false_iff_eq.mpr c14
            clear c14
            by_cases c15 : t599 = 5
            · rw [if_pos c15] at H
              have c15b0 : (t599 == 5) = true := beq_iff_eq.mpr c15
              have c15b1 : (t599 != 5) = false := bne_eq_false_iff_eq.mpr c15
              clear c15
              replace H := Option.bind_eq_some_iff.mp H
              obtain ⟨t624, A160, H⟩ := H
              replace H : (if t624 = true then (if t606 = true then (if t613 = true then (none) else (if t620 = true then (none) else ((flags_Lengths.f k y582).bind fun t625 => ((bonsairef05_Same.f k t625 (([0, 2, 1] : List Int))).bind fun t631 => (if t631 = true then ((flags_Lengths.f k ([] : List Bool)).bind fun t632 => (if (t632.length : Int) = 0 then ((flags_Count.f k y582).bind fun t635 => (some (t635 == 2))) else (none))) else (none)))))) else (none)) else (none)) = some r := H
              have A16 := Aside0.mk A160
              clear A160
              by_cases c17 : t624 = true
              · subst c17
                have H1 : (if t606 = true then (if t613 = true then (none) else (if t620 = true then (none) else ((flags_Lengths.f k y582).bind fun t625 => ((bonsairef05_Same.f k t625 (([0, 2, 1] : List Int))).bind fun t631 => (if t631 = true then ((flags_Lengths.f k ([] : List Bool)).bind fun t632 => (if (t632.length : Int) = 0 then ((flags_Count.f k y582).bind fun t635 => (some (t635 == 2))) else (none))) else (none)))))) else (none)) = some r := by rw [if_pos rfl] at H; exact H
                clear H
                have H := H1
                clear H1
                by_cases c18 : t606 = true
                · subst c18
                  have H1 : (if t613 = true then (none) else (if t620 = true then (none) else ((flags_Lengths.f k y582).bind fun t625 => ((bonsairef05_Same.f k t625 (([0, 2, 1] : List Int))).bind fun t631 => (if t631 = true then ((flags_Lengths.f k ([] : List Bool)).bind fun t632 => (if (t632.length : Int) = 0 then ((flags_Count.f k y582).bind fun t635 => (some (t635 == 2))) else (none))) else (none)))))) = some r := by rw [if_pos rfl] at H; exact H
                  clear H
                  have H := H1
                  clear H1
                  by_cases c19 : t613 = true
                  · subst c19
                    have H1 : (none) = some r := by rw [if_pos rfl] at H; exact H
                    clear H
                    have H := H1
                    clear H1
                    exact absurd H (by simp)
                  · replace c19 := Bool.eq_false_iff.mpr c19
                    subst c19
                    have H1 : (if t620 = true then (none) else ((flags_Lengths.f k y582).bind fun t625 => ((bonsairef05_Same.f k t625 (([0, 2, 1] : List Int))).bind fun t631 => (if t631 = true then ((flags_Lengths.f k ([] : List Bool)).bind fun t632 => (if (t632.length : Int) = 0 then ((flags_Count.f k y582).bind fun t635 => (some (t635 == 2))) else (none))) else (none))))) = some r := by rw [if_neg (show ¬ (false = true) by decide)] at H; exact H
                    clear H
                    have H := H1
                    clear H1
                    by_cases c20 : t620 = true
                    · subst c20
                      have H1 : (none) = some r := by rw [if_pos rfl] at H; exact H
                      clear H
                      have H := H1
                      clear H1
                      exact absurd H (by simp)
                    · replace c20 := Bool.eq_false_iff.mpr c20
                      subst c20
                      have H1 : ((flags_Lengths.f k y582).bind fun t625 => ((bonsairef05_Same.f k t625 (([0, 2, 1] : List Int))).bind fun t631 => (if t631 = true then ((flags_Lengths.f k ([] : List Bool)).bind fun t632 => (if (t632.length : Int) = 0 then ((flags_Count.f k y582).bind fun t635 => (some (t635 == 2))) else (none))) else (none)))) = some r := by rw [if_neg (show ¬ (false = true) by decide)] at H; exact H
                      clear H
                      have H := H1
                      clear H1
                      replace H := Option.bind_eq_some_iff.mp H
                      obtain ⟨t625, A210, H⟩ := H
                      replace H : ((bonsairef05_Same.f k t625 (([0, 2, 1] : List Int))).bind fun t631 => (if t631 = true then ((flags_Lengths.f k ([] : List Bool)).bind fun t632 => (if (t632.length : Int) = 0 then ((flags_Count.f k y582).bind fun t635 => (some (t635 == 2))) else (none))) else (none))) = some r := H
                      have A21 := Aside0.mk A210
                      clear A210
                      obtain ⟨y628, hy628⟩ : ∃ y_ : List Int, y_ = (([0, 2, 1] : List Int)) := ⟨_, rfl⟩
                      replace H : ((bonsairef05_Same.f k t625 y628).bind fun t631 => (if t631 = true then ((flags_Lengths.f k ([] : List Bool)).bind fun t632 => (if (t632.length : Int) = 0 then ((flags_Count.f k y582).bind fun t635 => (some (t635 == 2))) else (none))) else (none))) = some r := by first | (rw [hy628]; with_reducible exact H) | (have H2_ := (Option.bind_some _ _).symm.trans H; rw [hy628]; with_reducible exact H2_) | (have H2_ := (Option.bind_some _ _).symm.trans H; with_reducible exact H2_) | with_reducible exact H | (rw [hy628]; exact H) | exact H
                      have Ny628 := Aside0.mk hy628
                      clear hy628
                      replace H := Option.bind_eq_some_iff.mp H
                      obtain ⟨t631, A220, H⟩ := H
                      replace H : (if t631 = true then ((flags_Lengths.f k ([] : List Bool)).bind fun t632 => (if (t632.length : Int) = 0 then ((flags_Count.f k y582).bind fun t635 => (some (t635 == 2))) else (none))) else (none)) = some r := H
                      have A22 := Aside0.mk A220
                      clear A220
                      by_cases c23 : t631 = true
                      · subst c23
                        have H1 : ((flags_Lengths.f k ([] : List Bool)).bind fun t632 => (if (t632.length : Int) = 0 then ((flags_Count.f k y582).bind fun t635 => (some (t635 == 2))) else (none))) = some r := by rw [if_pos rfl] at H; exact H
                        clear H
                        have H := H1
                        clear H1
                        replace H := Option.bind_eq_some_iff.mp H
                        obtain ⟨t632, A240, H⟩ := H
                        replace H : (if (t632.length : Int) = 0 then ((flags_Count.f k y582).bind fun t635 => (some (t635 == 2))) else (none)) = some r := H
                        have A24 := Aside0.mk A240
                        clear A240
                        by_cases c25 : (t632.length : Int) = 0
                        · rw [if_pos c25] at H
                          have c25b0 : ((t632.length : Int) == 0) = true := beq_iff_eq.mpr c25
                          have c25b1 : ((t632.length : Int) != 0) = false := bne_eq_false_iff_eq.mpr c25
                          clear c25
                          replace H := Option.bind_eq_some_iff.mp H
                          obtain ⟨t635, A260, H⟩ := H
                          replace H : (some (t635 == 2)) = some r := H
                          have A26 := Aside0.mk A260
                          clear A260
                          obtain rfl := Option.some.inj H
                          go_enter Try.func51, Try.ntmps51
                          go_wp2_with (first | ((with_reducible refine gate_dst (N := 17) rfl ?_); (try (refine gate_guard (by rfl) ?_; dsimp only)); refine Kd.R_lit Kd.bool _ 4 ?hg (N := 17) ?hd (xs := ([true, true, false] : List Bool)) (inner := [.bool true, .bool true, .bool false]) (ok := fun _ => True) (okp := fun _ => True) ?hr ?hp (fun _ hk => hk) trivial (Below.refl _ _) (Nat.le_refl _) (by simp) ?_; (case hd => rfl); (case hg => rfl); (case hr => first | (go_simp; done) | (go_simp; rfl)); (case hp => exact (Reps.one (show Kd.M Kd.bool _ _ _ true [.bool true] from rfl) (Reps.one (show Kd.M Kd.bool _ _ _ true [.bool true] from rfl) (Reps.one (show Kd.M Kd.bool _ _ _ false [.bool false] from rfl) (Reps.none _ _))))); intro v583 w27 ho28 hb hg_ hnew_; clear hg_ hnew_; (first | rw [← Ny582.out] at ho28 | (simp only [Int.reduceToNat] at ho28; rw [← Ny582.out] at ho28)); have n0_ := Aside0.mk (Kd.R_lower ho28 (below_size (by repeat (first | (with_reducible first | exact HB.out | apply below_alloc | apply pw_below_drewN | apply below_drew1) | exact HB.out)))); have n1_ := Aside0.mk (below_step (by repeat (first | (with_reducible first | exact HB.out | apply below_alloc | apply pw_below_drewN | apply below_drew1) | exact HB.out)) hb); clear HB; have HO584 := n0_; have HB := n1_; clear n0_ n1_; clear hb ho28; obtain ⟨Ao29, co29, eo29⟩ := Kd.R_slice HO584.out; subst eo29) | ((with_reducible refine gate_callee (f := 57) rfl ?_); refine goesL_ (some 19) rfl rfl Try.func57 (by kernel_rfl) rfl #[.slice Ao29 y582.length co29] rfl (by (try simp only [List.map_toArray, List.map_cons, List.map_nil]); first | done | rfl | (simp only [List.length_drop, List.length_take]; rfl)) ?_; (with_reducible refine (flags_Encode.calls k _ _ y582 t585 _ ?side1 ?side2 A1.out).mono ?_); (case side1 => repeat (first | exact (Kd.R_reads' HO584.out).2.2 | (with_reducible refine Kd.C_alloc ?_ _) | (with_reducible refine Kd.C_drewN ?_ _) | (with_reducible refine Kd.C_drew ?_))); (case side2 => exact (Kd.R_reads' HO584.out).2.1); rintro e w30 ⟨rfl, hb⟩; refine ⟨_, rfl, ?_⟩; have n0_ := Aside0.mk (Kd.R_below (by (with_reducible repeat (first | apply Kd.R_alloc | apply Kd.R_drewN | apply Kd.R_drew)); exact HO584.out) hb); have n1_ := Aside0.mk (below_step (by repeat (first | (with_reducible first | exact HB.out | apply below_alloc | apply pw_below_drewN | apply below_drew1) | exact HB.out)) hb); clear HO584; clear HB; have HO584 := n0_; have HB := n1_; clear n0_ n1_; (try clear hb); (try clear hb2); (try clear hk); (try clear hi)) | ((with_reducible refine gate_callee (f := 62) rfl ?_); refine goesL_ (some 22) rfl rfl Try.func62 (by kernel_rfl) rfl #[.string t585, .int .i64 3] rfl (by (try simp only [List.map_toArray, List.map_cons, List.map_nil]); first | done | rfl | (simp only [List.length_drop, List.length_take]; rfl)) ?_; (with_reducible refine (flags_Decode.calls k t585 3 t586 t587 _ A2.out).mono ?_); rintro e w31 ⟨v588, rfl, ho0, hb⟩; refine ⟨_, rfl, ?_⟩; have n0_ := Aside0.mk (Kd.R_elder' (by (with_reducible repeat (first | apply Kd.R_alloc | apply Kd.R_drewN | apply Kd.R_drew)); exact HO584.out) (Kd.R_base ho0) hb); have n1_ := Aside0.mk (Kd.R_lower (Kd.R_new' ho0 (Kd.R_lt (by (with_reducible repeat (first | apply Kd.R_alloc | apply Kd.R_drewN | apply Kd.R_drew)); exact HO584.out))) (below_size (by repeat (first | (with_reducible first | exact HB.out | apply below_alloc | apply pw_below_drewN | apply below_drew1) | exact HB.out)))); have n2_ := Aside0.mk (below_step (by repeat (first | (with_reducible first | exact HB.out | apply below_alloc | apply pw_below_drewN | apply below_drew1) | exact HB.out)) hb); clear HO584; clear HB; have HO584 := n0_; have HO589 := n1_; have HB := n2_; clear n0_ n1_ n2_; (try clear hb); (try clear hb2); (try clear hk); (try clear hi); (try clear ho0)) | ((with_reducible refine gate_callee (f := 62) rfl ?_); refine goesL_ (some 27) rfl rfl Try.func62 (by kernel_rfl) rfl #[.string t585, .int .i64 2] rfl (by (try simp only [List.map_toArray, List.map_cons, List.map_nil]); first | done | rfl | (simp only [List.length_drop, List.length_take]; rfl)) ?_; (with_reducible refine (flags_Decode.calls k t585 2 t590 t591 _ A3.out).mono ?_); rintro e w32 ⟨v592, rfl, ho0, hb⟩; refine ⟨_, rfl, ?_⟩; have n0_ := Aside0.mk (Kd.R_elder' (by (with_reducible repeat (first | apply Kd.R_alloc | apply Kd.R_drewN | apply Kd.R_drew)); exact HO584.out) (Kd.R_base ho0) hb); have n1_ := Aside0.mk (Kd.R_elder' (by (with_reducible repeat (first | apply Kd.R_alloc | apply Kd.R_drewN | apply Kd.R_drew)); exact HO589.out) (Kd.R_base ho0) hb); have n2_ := Aside0.mk (Kd.R_lower (Kd.R_new' (Kd.R_new' ho0 (Kd.R_lt (by (with_reducible repeat (first | apply Kd.R_alloc | apply Kd.R_drewN | apply Kd.R_drew)); exact HO584.out))) (Kd.R_lt (by (with_reducible repeat (first | apply Kd.R_alloc | apply Kd.R_drewN | apply Kd.R_drew)); exact HO589.out))) (below_size (by repeat (first | (with_reducible first | exact HB.out | apply below_alloc | apply pw_below_drewN | apply below_drew1) | exact HB.out)))); have n3_ := Aside0.mk (below_step (by repeat (first | (with_reducible first | exact HB.out | apply below_alloc | apply pw_below_drewN | apply below_drew1) | exact HB.out)) hb); clear HO584; clear HO589; clear HB; have HO584 := n0_; have HO589 := n1_; have HO593 := n2_; have HB := n3_; clear n0_ n1_ n2_ n3_; (try clear hb); (try clear hb2); (try clear hk); (try clear hi); (try clear ho0)) | ((with_reducible refine gate_callee (f := 62) rfl ?_); refine goesL_ (some 31) rfl rfl Try.func62 (by kernel_rfl) rfl #[.string (⟨#[1, 0, 1]⟩ : ByteArray), .int .i64 2] rfl (by (try simp only [List.map_toArray, List.map_cons, List.map_nil]); first | done | rfl | (simp only [List.length_drop, List.length_take]; rfl)) ?_; (with_reducible refine (flags_Decode.calls k (⟨#[1, 0, 1]⟩ : ByteArray) 2 t594 t595 _ A4.out).mono ?_); rintro e w33 ⟨v596, rfl, ho0, hb⟩; refine ⟨_, rfl, ?_⟩; have n0_ := Aside0.mk (Kd.R_elder' (by (with_reducible repeat (first | apply Kd.R_alloc | apply Kd.R_drewN | apply Kd.R_drew)); exact HO584.out) (Kd.R_base ho0) hb); have n1_ := Aside0.mk (Kd.R_elder' (by (with_reducible repeat (first | apply Kd.R_alloc | apply Kd.R_drewN | apply Kd.R_drew)); exact HO589.out) (Kd.R_base ho0) hb); have n2_ := Aside0.mk (Kd.R_elder' (by (with_reducible repeat (first | apply Kd.R_alloc | apply Kd.R_drewN | apply Kd.R_drew)); exact HO593.out) (Kd.R_base ho0) hb); have n3_ := Aside0.mk (Kd.R_lower (Kd.R_new' (Kd.R_new' (Kd.R_new' ho0 (Kd.R_lt (by (with_reducible repeat (first | apply Kd.R_alloc | apply Kd.R_drewN | apply Kd.R_drew)); exact HO584.out))) (Kd.R_lt (by (with_reducible repeat (first | apply Kd.R_alloc | apply Kd.R_drewN | apply Kd.R_drew)); exact HO589.out))) (Kd.R_lt (by (with_reducible repeat (first | apply Kd.R_alloc | apply Kd.R_drewN | apply Kd.R_drew)); exact HO593.out))) (below_size (by repeat (first | (with_reducible first | exact HB.out | apply below_alloc | apply pw_below_drewN | apply below_drew1) | exact HB.out)))); have n4_ := Aside0.mk (below_step (by repeat (first | (with_reducible first | exact HB.out | apply below_alloc | apply pw_below_drewN | apply below_drew1) | exact HB.out)) hb); clear HO584; clear HO589; clear HO593; clear HB; have HO584 := n0_; have HO589 := n1_; have HO593 := n2_; have HO597 := n3_; have HB := n4_; clear n0_ n1_ n2_ n3_ n4_; (try clear hb); (try clear hb2); (try clear hk); (try clear hi); (try clear ho0)) | ((with_reducible refine gate_callee (f := 62) rfl ?_); refine goesL_ (some 35) rfl rfl Try.func62 (by kernel_rfl) rfl #[.string (⟨#[0]⟩ : ByteArray), .int .i64 0] rfl (by (try simp only [List.map_toArray, List.map_cons, List.map_nil]); first | done | rfl | (simp only [List.length_drop, List.length_take]; rfl)) ?_; (with_reducible refine (flags_Decode.calls k (⟨#[0]⟩ : ByteArray) 0 t598 t599 _ A5.out).mono ?_); rintro e w34 ⟨v600, rfl, ho0, hb⟩; refine ⟨_, rfl, ?_⟩; have n0_ := Aside0.mk (Kd.R_elder' (by (with_reducible repeat (first | apply Kd.R_alloc | apply Kd.R_drewN | apply Kd.R_drew)); exact HO584.out) (Kd.R_base ho0) hb); have n1_ := Aside0.mk (Kd.R_elder' (by (with_reducible repeat (first | apply Kd.R_alloc | apply Kd.R_drewN | apply Kd.R_drew)); exact HO589.out) (Kd.R_base ho0) hb); have n2_ := Aside0.mk (Kd.R_elder' (by (with_reducible repeat (first | apply Kd.R_alloc | apply Kd.R_drewN | apply Kd.R_drew)); exact HO593.out) (Kd.R_base ho0) hb); have n3_ := Aside0.mk (Kd.R_elder' (by (with_reducible repeat (first | apply Kd.R_alloc | apply Kd.R_drewN | apply Kd.R_drew)); exact HO597.out) (Kd.R_base ho0) hb); have n4_ := Aside0.mk (Kd.R_lower (Kd.R_new' (Kd.R_new' (Kd.R_new' (Kd.R_new' ho0 (Kd.R_lt (by (with_reducible repeat (first | apply Kd.R_alloc | apply Kd.R_drewN | apply Kd.R_drew)); exact HO584.out))) (Kd.R_lt (by (with_reducible repeat (first | apply Kd.R_alloc | apply Kd.R_drewN | apply Kd.R_drew)); exact HO589.out))) (Kd.R_lt (by (with_reducible repeat (first | apply Kd.R_alloc | apply Kd.R_drewN | apply Kd.R_drew)); exact HO593.out))) (Kd.R_lt (by (with_reducible repeat (first | apply Kd.R_alloc | apply Kd.R_drewN | apply Kd.R_drew)); exact HO597.out))) (below_size (by repeat (first | (with_reducible first | exact HB.out | apply below_alloc | apply pw_below_drewN | apply below_drew1) | exact HB.out)))); have n5_ := Aside0.mk (below_step (by repeat (first | (with_reducible first | exact HB.out | apply below_alloc | apply pw_below_drewN | apply below_drew1) | exact HB.out)) hb); clear HO584; clear HO589; clear HO593; clear HO597; clear HB; have HO584 := n0_; have HO589 := n1_; have HO593 := n2_; have HO597 := n3_; have HO601 := n4_; have HB := n5_; clear n0_ n1_ n2_ n3_ n4_ n5_; (try clear hb); (try clear hb2); (try clear hk); (try clear hi); (try clear ho0)) | ((with_reducible refine gate_dst (N := 39) rfl ?_); (try (refine gate_guard (by rfl) ?_; dsimp only)); refine Kd.R_lit (Kd.int .i64) _ 3 ?hg (N := 39) ?hd (xs := ([0, 2, 1] : List Int)) (inner := [.int .i64 0, .int .i64 2, .int .i64 1]) (ok := fun _ => True) (okp := fun _ => True) ?hr ?hp (fun _ hk => hk) trivial (Below.refl _ _) (Nat.le_refl _) (by simp) ?_; (case hd => rfl); (case hg => rfl); (case hr => first | (go_simp; done) | (go_simp; rfl)); (case hp => exact (Reps.one (show Kd.M (Kd.int .i64) _ _ _ 0 [.int .i64 0] from rfl) (Reps.one (show Kd.M (Kd.int .i64) _ _ _ 2 [.int .i64 2] from rfl) (Reps.one (show Kd.M (Kd.int .i64) _ _ _ 1 [.int .i64 1] from rfl) (Reps.none _ _))))); intro v603 w35 ho36 hb hg_ hnew_; clear hg_ hnew_; (first | rw [← Ny602.out] at ho36 | (simp only [Int.reduceToNat] at ho36; rw [← Ny602.out] at ho36)); have n0_ := Aside0.mk (Kd.R_below (by (with_reducible repeat (first | apply Kd.R_alloc | apply Kd.R_drewN | apply Kd.R_drew)); exact HO584.out) hb); have n1_ := Aside0.mk (Kd.R_below (by (with_reducible repeat (first | apply Kd.R_alloc | apply Kd.R_drewN | apply Kd.R_drew)); exact HO589.out) hb); have n2_ := Aside0.mk (Kd.R_below (by (with_reducible repeat (first | apply Kd.R_alloc | apply Kd.R_drewN | apply Kd.R_drew)); exact HO593.out) hb); have n3_ := Aside0.mk (Kd.R_below (by (with_reducible repeat (first | apply Kd.R_alloc | apply Kd.R_drewN | apply Kd.R_drew)); exact HO597.out) hb); have n4_ := Aside0.mk (Kd.R_below (by (with_reducible repeat (first | apply Kd.R_alloc | apply Kd.R_drewN | apply Kd.R_drew)); exact HO601.out) hb); have n5_ := Aside0.mk (Kd.R_lower ho36 (below_size (by repeat (first | (with_reducible first | exact HB.out | apply below_alloc | apply pw_below_drewN | apply below_drew1) | exact HB.out)))); have n6_ := Aside0.mk (below_step (by repeat (first | (with_reducible first | exact HB.out | apply below_alloc | apply pw_below_drewN | apply below_drew1) | exact HB.out)) hb); clear HO584; clear HO589; clear HO593; clear HO597; clear HO601; clear HB; have HO584 := n0_; have HO589 := n1_; have HO593 := n2_; have HO597 := n3_; have HO601 := n4_; have HO604 := n5_; have HB := n6_; clear n0_ n1_ n2_ n3_ n4_ n5_ n6_; clear hb ho36; obtain ⟨Ao37, co37, eo37⟩ := Kd.R_slice HO604.out; subst eo37) | ((with_reducible refine gate_callee (f := 52) rfl ?_); refine goesL_ (some 40) rfl rfl Try.func52 (by kernel_rfl) rfl #[.slice Ao37 y602.length co37, .int .i64 3] rfl (by (try simp only [List.map_toArray, List.map_cons, List.map_nil]); first | done | rfl | (simp only [List.length_drop, List.length_take]; rfl)) ?_; (with_reducible refine (flags_Spread.calls k _ _ y602 3 t605 true _ ?side1 ?side2 A6.out).mono ?_); (case side1 => repeat (first | exact (Kd.R_reads' HO604.out).2.2 | (with_reducible refine Kd.C_alloc ?_ _) | (with_reducible refine Kd.C_drewN ?_ _) | (with_reducible refine Kd.C_drew ?_))); (case side2 => exact (Kd.R_reads' HO604.out).2.1); rintro e w38 ⟨v607, rfl, ho0, hb⟩; refine ⟨_, rfl, ?_⟩; have n0_ := Aside0.mk (Kd.R_elder' (by (with_reducible repeat (first | apply Kd.R_alloc | apply Kd.R_drewN | apply Kd.R_drew)); exact HO584.out) (Kd.R_base ho0) hb); have n1_ := Aside0.mk (Kd.R_elder' (by (with_reducible repeat (first | apply Kd.R_alloc | apply Kd.R_drewN | apply Kd.R_drew)); exact HO589.out) (Kd.R_base ho0) hb); have n2_ := Aside0.mk (Kd.R_elder' (by (with_reducible repeat (first | apply Kd.R_alloc | apply Kd.R_drewN | apply Kd.R_drew)); exact HO593.out) (Kd.R_base ho0) hb); have n3_ := Aside0.mk (Kd.R_elder' (by (with_reducible repeat (first | apply Kd.R_alloc | apply Kd.R_drewN | apply Kd.R_drew)); exact HO597.out) (Kd.R_base ho0) hb); have n4_ := Aside0.mk (Kd.R_elder' (by (with_reducible repeat (first | apply Kd.R_alloc | apply Kd.R_drewN | apply Kd.R_drew)); exact HO601.out) (Kd.R_base ho0) hb); have n5_ := Aside0.mk (Kd.R_below (by (with_reducible repeat (first | apply Kd.R_alloc | apply Kd.R_drewN | apply Kd.R_drew)); exact HO604.out) hb); have n6_ := Aside0.mk (Kd.R_lower (Kd.R_new' (Kd.R_new' (Kd.R_new' (Kd.R_new' (Kd.R_new' ho0 (Kd.R_lt (by (with_reducible repeat (first | apply Kd.R_alloc | apply Kd.R_drewN | apply Kd.R_drew)); exact HO584.out))) (Kd.R_lt (by (with_reducible repeat (first | apply Kd.R_alloc | apply Kd.R_drewN | apply Kd.R_drew)); exact HO589.out))) (Kd.R_lt (by (with_reducible repeat (first | apply Kd.R_alloc | apply Kd.R_drewN | apply Kd.R_drew)); exact HO593.out))) (Kd.R_lt (by (with_reducible repeat (first | apply Kd.R_alloc | apply Kd.R_drewN | apply Kd.R_drew)); exact HO597.out))) (Kd.R_lt (by (with_reducible repeat (first | apply Kd.R_alloc | apply Kd.R_drewN | apply Kd.R_drew)); exact HO601.out))) (below_size (by repeat (first | (with_reducible first | exact HB.out | apply below_alloc | apply pw_below_drewN | apply below_drew1) | exact HB.out)))); have n7_ := Aside0.mk (below_step (by repeat (first | (with_reducible first | exact HB.out | apply below_alloc | apply pw_below_drewN | apply below_drew1) | exact HB.out)) hb); clear HO584; clear HO589; clear HO593; clear HO597; clear HO601; clear HO604; clear HB; have HO584 := n0_; have HO589 := n1_; have HO593 := n2_; have HO597 := n3_; have HO601 := n4_; have HO604 := n5_; have HO608 := n6_; have HB := n7_; clear n0_ n1_ n2_ n3_ n4_ n5_ n6_ n7_; (try clear hb); (try clear hb2); (try clear hk); (try clear hi); (try clear ho0)) | ((with_reducible refine gate_dst (N := 44) rfl ?_); (try (refine gate_guard (by rfl) ?_; dsimp only)); refine Kd.R_lit (Kd.int .i64) _ 3 ?hg (N := 44) ?hd (xs := ([0, 2, 1] : List Int)) (inner := [.int .i64 0, .int .i64 2, .int .i64 1]) (ok := fun _ => True) (okp := fun _ => True) ?hr ?hp (fun _ hk => hk) trivial (Below.refl _ _) (Nat.le_refl _) (by simp) ?_; (case hd => rfl); (case hg => rfl); (case hr => first | (go_simp; done) | (go_simp; rfl)); (case hp => exact (Reps.one (show Kd.M (Kd.int .i64) _ _ _ 0 [.int .i64 0] from rfl) (Reps.one (show Kd.M (Kd.int .i64) _ _ _ 2 [.int .i64 2] from rfl) (Reps.one (show Kd.M (Kd.int .i64) _ _ _ 1 [.int .i64 1] from rfl) (Reps.none _ _))))); intro v610 w39 ho40 hb hg_ hnew_; clear hg_ hnew_; (first | rw [← Ny609.out] at ho40 | (simp only [Int.reduceToNat] at ho40; rw [← Ny609.out] at ho40)); have n0_ := Aside0.mk (Kd.R_below (by (with_reducible repeat (first | apply Kd.R_alloc | apply Kd.R_drewN | apply Kd.R_drew)); exact HO584.out) hb); have n1_ := Aside0.mk (Kd.R_below (by (with_reducible repeat (first | apply Kd.R_alloc | apply Kd.R_drewN | apply Kd.R_drew)); exact HO589.out) hb); have n2_ := Aside0.mk (Kd.R_below (by (with_reducible repeat (first | apply Kd.R_alloc | apply Kd.R_drewN | apply Kd.R_drew)); exact HO593.out) hb); have n3_ := Aside0.mk (Kd.R_below (by (with_reducible repeat (first | apply Kd.R_alloc | apply Kd.R_drewN | apply Kd.R_drew)); exact HO597.out) hb); have n4_ := Aside0.mk (Kd.R_below (by (with_reducible repeat (first | apply Kd.R_alloc | apply Kd.R_drewN | apply Kd.R_drew)); exact HO601.out) hb); have n5_ := Aside0.mk (Kd.R_elder' (by (with_reducible repeat (first | apply Kd.R_alloc | apply Kd.R_drewN | apply Kd.R_drew)); exact HO604.out) (Kd.R_base ho40) hb); have n6_ := Aside0.mk (Kd.R_below (by (with_reducible repeat (first | apply Kd.R_alloc | apply Kd.R_drewN | apply Kd.R_drew)); exact HO608.out) hb); have n7_ := Aside0.mk (Kd.R_lower (Kd.R_new' ho40 (Kd.R_lt (by (with_reducible repeat (first | apply Kd.R_alloc | apply Kd.R_drewN | apply Kd.R_drew)); exact HO604.out))) (below_size (by repeat (first | (with_reducible first | exact HB.out | apply below_alloc | apply pw_below_drewN | apply below_drew1) | exact HB.out)))); have n8_ := Aside0.mk (below_step (by repeat (first | (with_reducible first | exact HB.out | apply below_alloc | apply pw_below_drewN | apply below_drew1) | exact HB.out)) hb); clear HO584; clear HO589; clear HO593; clear HO597; clear HO601; clear HO604; clear HO608; clear HB; have HO584 := n0_; have HO589 := n1_; have HO593 := n2_; have HO597 := n3_; have HO601 := n4_; have HO604 := n5_; have HO608 := n6_; have HO611 := n7_; have HB := n8_; clear n0_ n1_ n2_ n3_ n4_ n5_ n6_ n7_ n8_; clear hb ho40; obtain ⟨Ao41, co41, eo41⟩ := Kd.R_slice HO611.out; subst eo41) | ((with_reducible refine gate_callee (f := 52) rfl ?_); refine goesL_ (some 45) rfl rfl Try.func52 (by kernel_rfl) rfl #[.slice Ao41 y609.length co41, .int .i64 2] rfl (by (try simp only [List.map_toArray, List.map_cons, List.map_nil]); first | done | rfl | (simp only [List.length_drop, List.length_take]; rfl)) ?_; (with_reducible refine (flags_Spread.calls k _ _ y609 2 t612 false _ ?side1 ?side2 A7.out).mono ?_); (case side1 => repeat (first | exact (Kd.R_reads' HO611.out).2.2 | (with_reducible refine Kd.C_alloc ?_ _) | (with_reducible refine Kd.C_drewN ?_ _) | (with_reducible refine Kd.C_drew ?_))); (case side2 => exact (Kd.R_reads' HO611.out).2.1); rintro e w42 ⟨v614, rfl, ho0, hb⟩; refine ⟨_, rfl, ?_⟩; have n0_ := Aside0.mk (Kd.R_elder' (by (with_reducible repeat (first | apply Kd.R_alloc | apply Kd.R_drewN | apply Kd.R_drew)); exact HO584.out) (Kd.R_base ho0) hb); have n1_ := Aside0.mk (Kd.R_elder' (by (with_reducible repeat (first | apply Kd.R_alloc | apply Kd.R_drewN | apply Kd.R_drew)); exact HO589.out) (Kd.R_base ho0) hb); have n2_ := Aside0.mk (Kd.R_elder' (by (with_reducible repeat (first | apply Kd.R_alloc | apply Kd.R_drewN | apply Kd.R_drew)); exact HO593.out) (Kd.R_base ho0) hb); have n3_ := Aside0.mk (Kd.R_elder' (by (with_reducible repeat (first | apply Kd.R_alloc | apply Kd.R_drewN | apply Kd.R_drew)); exact HO597.out) (Kd.R_base ho0) hb); have n4_ := Aside0.mk (Kd.R_elder' (by (with_reducible repeat (first | apply Kd.R_alloc | apply Kd.R_drewN | apply Kd.R_drew)); exact HO601.out) (Kd.R_base ho0) hb); have n5_ := Aside0.mk (Kd.R_below (by (with_reducible repeat (first | apply Kd.R_alloc | apply Kd.R_drewN | apply Kd.R_drew)); exact HO604.out) hb); have n6_ := Aside0.mk (Kd.R_elder' (by (with_reducible repeat (first | apply Kd.R_alloc | apply Kd.R_drewN | apply Kd.R_drew)); exact HO608.out) (Kd.R_base ho0) hb); have n7_ := Aside0.mk (Kd.R_below (by (with_reducible repeat (first | apply Kd.R_alloc | apply Kd.R_drewN | apply Kd.R_drew)); exact HO611.out) hb); have n8_ := Aside0.mk (Kd.R_lower (Kd.R_new' (Kd.R_new' (Kd.R_new' (Kd.R_new' (Kd.R_new' (Kd.R_new' ho0 (Kd.R_lt (by (with_reducible repeat (first | apply Kd.R_alloc | apply Kd.R_drewN | apply Kd.R_drew)); exact HO584.out))) (Kd.R_lt (by (with_reducible repeat (first | apply Kd.R_alloc | apply Kd.R_drewN | apply Kd.R_drew)); exact HO589.out))) (Kd.R_lt (by (with_reducible repeat (first | apply Kd.R_alloc | apply Kd.R_drewN | apply Kd.R_drew)); exact HO593.out))) (Kd.R_lt (by (with_reducible repeat (first | apply Kd.R_alloc | apply Kd.R_drewN | apply Kd.R_drew)); exact HO597.out))) (Kd.R_lt (by (with_reducible repeat (first | apply Kd.R_alloc | apply Kd.R_drewN | apply Kd.R_drew)); exact HO601.out))) (Kd.R_lt (by (with_reducible repeat (first | apply Kd.R_alloc | apply Kd.R_drewN | apply Kd.R_drew)); exact HO608.out))) (below_size (by repeat (first | (with_reducible first | exact HB.out | apply below_alloc | apply pw_below_drewN | apply below_drew1) | exact HB.out)))); have n9_ := Aside0.mk (below_step (by repeat (first | (with_reducible first | exact HB.out | apply below_alloc | apply pw_below_drewN | apply below_drew1) | exact HB.out)) hb); clear HO584; clear HO589; clear HO593; clear HO597; clear HO601; clear HO604; clear HO608; clear HO611; clear HB; have HO584 := n0_; have HO589 := n1_; have HO593 := n2_; have HO597 := n3_; have HO601 := n4_; have HO604 := n5_; have HO608 := n6_; have HO611 := n7_; have HO615 := n8_; have HB := n9_; clear n0_ n1_ n2_ n3_ n4_ n5_ n6_ n7_ n8_ n9_; (try clear hb); (try clear hb2); (try clear hk); (try clear hi); (try clear ho0)) | ((with_reducible refine gate_dst (N := 49) rfl ?_); (try (refine gate_guard (by rfl) ?_; dsimp only)); refine Kd.R_lit (Kd.int .i64) _ 3 ?hg (N := 49) ?hd (xs := ([1, 0, 1] : List Int)) (inner := [.int .i64 1, .int .i64 0, .int .i64 1]) (ok := fun _ => True) (okp := fun _ => True) ?hr ?hp (fun _ hk => hk) trivial (Below.refl _ _) (Nat.le_refl _) (by simp) ?_; (case hd => rfl); (case hg => rfl); (case hr => first | (go_simp; done) | (go_simp; rfl)); (case hp => exact (Reps.one (show Kd.M (Kd.int .i64) _ _ _ 1 [.int .i64 1] from rfl) (Reps.one (show Kd.M (Kd.int .i64) _ _ _ 0 [.int .i64 0] from rfl) (Reps.one (show Kd.M (Kd.int .i64) _ _ _ 1 [.int .i64 1] from rfl) (Reps.none _ _))))); intro v617 w43 ho44 hb hg_ hnew_; clear hg_ hnew_; (first | rw [← Ny616.out] at ho44 | (simp only [Int.reduceToNat] at ho44; rw [← Ny616.out] at ho44)); have n0_ := Aside0.mk (Kd.R_below (by (with_reducible repeat (first | apply Kd.R_alloc | apply Kd.R_drewN | apply Kd.R_drew)); exact HO584.out) hb); have n1_ := Aside0.mk (Kd.R_below (by (with_reducible repeat (first | apply Kd.R_alloc | apply Kd.R_drewN | apply Kd.R_drew)); exact HO589.out) hb); have n2_ := Aside0.mk (Kd.R_below (by (with_reducible repeat (first | apply Kd.R_alloc | apply Kd.R_drewN | apply Kd.R_drew)); exact HO593.out) hb); have n3_ := Aside0.mk (Kd.R_below (by (with_reducible repeat (first | apply Kd.R_alloc | apply Kd.R_drewN | apply Kd.R_drew)); exact HO597.out) hb); have n4_ := Aside0.mk (Kd.R_below (by (with_reducible repeat (first | apply Kd.R_alloc | apply Kd.R_drewN | apply Kd.R_drew)); exact HO601.out) hb); have n5_ := Aside0.mk (Kd.R_elder' (by (with_reducible repeat (first | apply Kd.R_alloc | apply Kd.R_drewN | apply Kd.R_drew)); exact HO604.out) (Kd.R_base ho44) hb); have n6_ := Aside0.mk (Kd.R_below (by (with_reducible repeat (first | apply Kd.R_alloc | apply Kd.R_drewN | apply Kd.R_drew)); exact HO608.out) hb); have n7_ := Aside0.mk (Kd.R_elder' (by (with_reducible repeat (first | apply Kd.R_alloc | apply Kd.R_drewN | apply Kd.R_drew)); exact HO611.out) (Kd.R_base ho44) hb); have n8_ := Aside0.mk (Kd.R_below (by (with_reducible repeat (first | apply Kd.R_alloc | apply Kd.R_drewN | apply Kd.R_drew)); exact HO615.out) hb); have n9_ := Aside0.mk (Kd.R_lower (Kd.R_new' (Kd.R_new' ho44 (Kd.R_lt (by (with_reducible repeat (first | apply Kd.R_alloc | apply Kd.R_drewN | apply Kd.R_drew)); exact HO604.out))) (Kd.R_lt (by (with_reducible repeat (first | apply Kd.R_alloc | apply Kd.R_drewN | apply Kd.R_drew)); exact HO611.out))) (below_size (by repeat (first | (with_reducible first | exact HB.out | apply below_alloc | apply pw_below_drewN | apply below_drew1) | exact HB.out)))); have n10_ := Aside0.mk (below_step (by repeat (first | (with_reducible first | exact HB.out | apply below_alloc | apply pw_below_drewN | apply below_drew1) | exact HB.out)) hb); clear HO584; clear HO589; clear HO593; clear HO597; clear HO601; clear HO604; clear HO608; clear HO611; clear HO615; clear HB; have HO584 := n0_; have HO589 := n1_; have HO593 := n2_; have HO597 := n3_; have HO601 := n4_; have HO604 := n5_; have HO608 := n6_; have HO611 := n7_; have HO615 := n8_; have HO618 := n9_; have HB := n10_; clear n0_ n1_ n2_ n3_ n4_ n5_ n6_ n7_ n8_ n9_ n10_; clear hb ho44; obtain ⟨Ao45, co45, eo45⟩ := Kd.R_slice HO618.out; subst eo45) | ((with_reducible refine gate_callee (f := 52) rfl ?_); refine goesL_ (some 50) rfl rfl Try.func52 (by kernel_rfl) rfl #[.slice Ao45 y616.length co45, .int .i64 9] rfl (by (try simp only [List.map_toArray, List.map_cons, List.map_nil]); first | done | rfl | (simp only [List.length_drop, List.length_take]; rfl)) ?_; (with_reducible refine (flags_Spread.calls k _ _ y616 9 t619 false _ ?side1 ?side2 A8.out).mono ?_); (case side1 => repeat (first | exact (Kd.R_reads' HO618.out).2.2 | (with_reducible refine Kd.C_alloc ?_ _) | (with_reducible refine Kd.C_drewN ?_ _) | (with_reducible refine Kd.C_drew ?_))); (case side2 => exact (Kd.R_reads' HO618.out).2.1); rintro e w46 ⟨v621, rfl, ho0, hb⟩; refine ⟨_, rfl, ?_⟩; have n0_ := Aside0.mk (Kd.R_elder' (by (with_reducible repeat (first | apply Kd.R_alloc | apply Kd.R_drewN | apply Kd.R_drew)); exact HO584.out) (Kd.R_base ho0) hb); have n1_ := Aside0.mk (Kd.R_elder' (by (with_reducible repeat (first | apply Kd.R_alloc | apply Kd.R_drewN | apply Kd.R_drew)); exact HO589.out) (Kd.R_base ho0) hb); have n2_ := Aside0.mk (Kd.R_elder' (by (with_reducible repeat (first | apply Kd.R_alloc | apply Kd.R_drewN | apply Kd.R_drew)); exact HO593.out) (Kd.R_base ho0) hb); have n3_ := Aside0.mk (Kd.R_elder' (by (with_reducible repeat (first | apply Kd.R_alloc | apply Kd.R_drewN | apply Kd.R_drew)); exact HO597.out) (Kd.R_base ho0) hb); have n4_ := Aside0.mk (Kd.R_elder' (by (with_reducible repeat (first | apply Kd.R_alloc | apply Kd.R_drewN | apply Kd.R_drew)); exact HO601.out) (Kd.R_base ho0) hb); have n5_ := Aside0.mk (Kd.R_below (by (with_reducible repeat (first | apply Kd.R_alloc | apply Kd.R_drewN | apply Kd.R_drew)); exact HO604.out) hb); have n6_ := Aside0.mk (Kd.R_elder' (by (with_reducible repeat (first | apply Kd.R_alloc | apply Kd.R_drewN | apply Kd.R_drew)); exact HO608.out) (Kd.R_base ho0) hb); have n7_ := Aside0.mk (Kd.R_below (by (with_reducible repeat (first | apply Kd.R_alloc | apply Kd.R_drewN | apply Kd.R_drew)); exact HO611.out) hb); have n8_ := Aside0.mk (Kd.R_elder' (by (with_reducible repeat (first | apply Kd.R_alloc | apply Kd.R_drewN | apply Kd.R_drew)); exact HO615.out) (Kd.R_base ho0) hb); have n9_ := Aside0.mk (Kd.R_below (by (with_reducible repeat (first | apply Kd.R_alloc | apply Kd.R_drewN | apply Kd.R_drew)); exact HO618.out) hb); have n10_ := Aside0.mk (Kd.R_lower (Kd.R_new' (Kd.R_new' (Kd.R_new' (Kd.R_new' (Kd.R_new' (Kd.R_new' (Kd.R_new' ho0 (Kd.R_lt (by (with_reducible repeat (first | apply Kd.R_alloc | apply Kd.R_drewN | apply Kd.R_drew)); exact HO584.out))) (Kd.R_lt (by (with_reducible repeat (first | apply Kd.R_alloc | apply Kd.R_drewN | apply Kd.R_drew)); exact HO589.out))) (Kd.R_lt (by (with_reducible repeat (first | apply Kd.R_alloc | apply Kd.R_drewN | apply Kd.R_drew)); exact HO593.out))) (Kd.R_lt (by (with_reducible repeat (first | apply Kd.R_alloc | apply Kd.R_drewN | apply Kd.R_drew)); exact HO597.out))) (Kd.R_lt (by (with_reducible repeat (first | apply Kd.R_alloc | apply Kd.R_drewN | apply Kd.R_drew)); exact HO601.out))) (Kd.R_lt (by (with_reducible repeat (first | apply Kd.R_alloc | apply Kd.R_drewN | apply Kd.R_drew)); exact HO608.out))) (Kd.R_lt (by (with_reducible repeat (first | apply Kd.R_alloc | apply Kd.R_drewN | apply Kd.R_drew)); exact HO615.out))) (below_size (by repeat (first | (with_reducible first | exact HB.out | apply below_alloc | apply pw_below_drewN | apply below_drew1) | exact HB.out)))); have n11_ := Aside0.mk (below_step (by repeat (first | (with_reducible first | exact HB.out | apply below_alloc | apply pw_below_drewN | apply below_drew1) | exact HB.out)) hb); clear HO584; clear HO589; clear HO593; clear HO597; clear HO601; clear HO604; clear HO608; clear HO611; clear HO615; clear HO618; clear HB; have HO584 := n0_; have HO589 := n1_; have HO593 := n2_; have HO597 := n3_; have HO601 := n4_; have HO604 := n5_; have HO608 := n6_; have HO611 := n7_; have HO615 := n8_; have HO618 := n9_; have HO622 := n10_; have HB := n11_; clear n0_ n1_ n2_ n3_ n4_ n5_ n6_ n7_ n8_ n9_ n10_ n11_; (try clear hb); (try clear hb2); (try clear hk); (try clear hi); (try clear ho0); obtain ⟨Ao47, co47, eo47⟩ := Kd.R_slice HO589.out; subst eo47) | (go_at_call 61; (with_reducible refine (bonsairef07_Same.calls k _ _ t586 _ _ y582 true _ ?side1 ?side2 ?side3 ?side4 A10.out).mono ?_); (case side1 => repeat (first | exact (Kd.R_reads' HO589.out).2.2 | (with_reducible refine Kd.C_alloc ?_ _) | (with_reducible refine Kd.C_drewN ?_ _) | (with_reducible refine Kd.C_drew ?_))); (case side2 => exact (Kd.R_reads' HO589.out).2.1); (case side3 => repeat (first | exact (Kd.R_reads' HO584.out).2.2 | (with_reducible refine Kd.C_alloc ?_ _) | (with_reducible refine Kd.C_drewN ?_ _) | (with_reducible refine Kd.C_drew ?_))); (case side4 => exact (Kd.R_reads' HO584.out).2.1); rintro e w' ⟨rfl, ⟨nd, rfl⟩⟩; obtain ⟨Ao48, co48, eo48⟩ := Kd.R_slice HO608.out; subst eo48) | (go_at_call 61; (with_reducible refine (bonsairef07_Same.calls k _ _ t605 _ _ y582 true _ ?side1 ?side2 ?side3 ?side4 A16.out).mono ?_); (case side1 => repeat (first | exact (Kd.R_reads' HO608.out).2.2 | (with_reducible refine Kd.C_alloc ?_ _) | (with_reducible refine Kd.C_drewN ?_ _) | (with_reducible refine Kd.C_drew ?_))); (case side2 => exact (Kd.R_reads' HO608.out).2.1); (case side3 => repeat (first | exact (Kd.R_reads' HO584.out).2.2 | (with_reducible refine Kd.C_alloc ?_ _) | (with_reducible refine Kd.C_drewN ?_ _) | (with_reducible refine Kd.C_drew ?_))); (case side4 => exact (Kd.R_reads' HO584.out).2.1); rintro e w' ⟨rfl, ⟨nd, rfl⟩⟩) | (go_at_call 55; (with_reducible refine (flags_Lengths.calls k _ _ y582 t625 _ ?side1 ?side2 A21.out).mono ?_); (case side1 => repeat (first | exact (Kd.R_reads' HO584.out).2.2 | (with_reducible refine Kd.C_alloc ?_ _) | (with_reducible refine Kd.C_drewN ?_ _) | (with_reducible refine Kd.C_drew ?_))); (case side2 => exact (Kd.R_reads' HO584.out).2.1); rintro e w49 ⟨v626, rfl, ho0, hb⟩; have n0_ := Aside0.mk (Kd.R_below (by (with_reducible repeat (first | apply Kd.R_alloc | apply Kd.R_drewN | apply Kd.R_drew)); exact HO584.out) hb); have n1_ := Aside0.mk (Kd.R_below (by (with_reducible repeat (first | apply Kd.R_alloc | apply Kd.R_drewN | apply Kd.R_drew)); exact HO589.out) hb); have n2_ := Aside0.mk (Kd.R_below (by (with_reducible repeat (first | apply Kd.R_alloc | apply Kd.R_drewN | apply Kd.R_drew)); exact HO593.out) hb); have n3_ := Aside0.mk (Kd.R_below (by (with_reducible repeat (first | apply Kd.R_alloc | apply Kd.R_drewN | apply Kd.R_drew)); exact HO597.out) hb); have n4_ := Aside0.mk (Kd.R_below (by (with_reducible repeat (first | apply Kd.R_alloc | apply Kd.R_drewN | apply Kd.R_drew)); exact HO601.out) hb); have n5_ := Aside0.mk (Kd.R_elder' (by (with_reducible repeat (first | apply Kd.R_alloc | apply Kd.R_drewN | apply Kd.R_drew)); exact HO604.out) (Kd.R_base ho0) hb); have n6_ := Aside0.mk (Kd.R_below (by (with_reducible repeat (first | apply Kd.R_alloc | apply Kd.R_drewN | apply Kd.R_drew)); exact HO608.out) hb); have n7_ := Aside0.mk (Kd.R_elder' (by (with_reducible repeat (first | apply Kd.R_alloc | apply Kd.R_drewN | apply Kd.R_drew)); exact HO611.out) (Kd.R_base ho0) hb); have n8_ := Aside0.mk (Kd.R_below (by (with_reducible repeat (first | apply Kd.R_alloc | apply Kd.R_drewN | apply Kd.R_drew)); exact HO615.out) hb); have n9_ := Aside0.mk (Kd.R_elder' (by (with_reducible repeat (first | apply Kd.R_alloc | apply Kd.R_drewN | apply Kd.R_drew)); exact HO618.out) (Kd.R_base ho0) hb); have n10_ := Aside0.mk (Kd.R_below (by (with_reducible repeat (first | apply Kd.R_alloc | apply Kd.R_drewN | apply Kd.R_drew)); exact HO622.out) hb); have n11_ := Aside0.mk (Kd.R_lower (Kd.R_new' (Kd.R_new' (Kd.R_new' ho0 (Kd.R_lt (by (with_reducible repeat (first | apply Kd.R_alloc | apply Kd.R_drewN | apply Kd.R_drew)); exact HO604.out))) (Kd.R_lt (by (with_reducible repeat (first | apply Kd.R_alloc | apply Kd.R_drewN | apply Kd.R_drew)); exact HO611.out))) (Kd.R_lt (by (with_reducible repeat (first | apply Kd.R_alloc | apply Kd.R_drewN | apply Kd.R_drew)); exact HO618.out))) (below_size (by repeat (first | (with_reducible first | exact HB.out | apply below_alloc | apply pw_below_drewN | apply below_drew1) | exact HB.out)))); have n12_ := Aside0.mk (below_step (by repeat (first | (with_reducible first | exact HB.out | apply below_alloc | apply pw_below_drewN | apply below_drew1) | exact HB.out)) hb); clear HO584; clear HO589; clear HO593; clear HO597; clear HO601; clear HO604; clear HO608; clear HO611; clear HO615; clear HO618; clear HO622; clear HB; have HO584 := n0_; have HO589 := n1_; have HO593 := n2_; have HO597 := n3_; have HO601 := n4_; have HO604 := n5_; have HO608 := n6_; have HO611 := n7_; have HO615 := n8_; have HO618 := n9_; have HO622 := n10_; have HO627 := n11_; have HB := n12_; clear n0_ n1_ n2_ n3_ n4_ n5_ n6_ n7_ n8_ n9_ n10_ n11_ n12_; (try clear hb); (try clear hb2); (try clear hk); (try clear hi); (try clear ho0)) | ((with_reducible refine gate_dst (N := 95) rfl ?_); (try (refine gate_guard (by rfl) ?_; dsimp only)); refine Kd.R_lit (Kd.int .i64) _ 3 ?hg (N := 95) ?hd (xs := ([0, 2, 1] : List Int)) (inner := [.int .i64 0, .int .i64 2, .int .i64 1]) (ok := fun _ => True) (okp := fun _ => True) ?hr ?hp (fun _ hk => hk) trivial (Below.refl _ _) (Nat.le_refl _) (by simp) ?_; (case hd => rfl); (case hg => rfl); (case hr => first | (go_simp; done) | (go_simp; rfl)); (case hp => exact (Reps.one (show Kd.M (Kd.int .i64) _ _ _ 0 [.int .i64 0] from rfl) (Reps.one (show Kd.M (Kd.int .i64) _ _ _ 2 [.int .i64 2] from rfl) (Reps.one (show Kd.M (Kd.int .i64) _ _ _ 1 [.int .i64 1] from rfl) (Reps.none _ _))))); intro v629 w50 ho51 hb hg_ hnew_; clear hg_ hnew_; (first | rw [← Ny628.out] at ho51 | (simp only [Int.reduceToNat] at ho51; rw [← Ny628.out] at ho51)); have n0_ := Aside0.mk (Kd.R_below (by (with_reducible repeat (first | apply Kd.R_alloc | apply Kd.R_drewN | apply Kd.R_drew)); exact HO584.out) hb); have n1_ := Aside0.mk (Kd.R_below (by (with_reducible repeat (first | apply Kd.R_alloc | apply Kd.R_drewN | apply Kd.R_drew)); exact HO589.out) hb); have n2_ := Aside0.mk (Kd.R_below (by (with_reducible repeat (first | apply Kd.R_alloc | apply Kd.R_drewN | apply Kd.R_drew)); exact HO593.out) hb); have n3_ := Aside0.mk (Kd.R_below (by (with_reducible repeat (first | apply Kd.R_alloc | apply Kd.R_drewN | apply Kd.R_drew)); exact HO597.out) hb); have n4_ := Aside0.mk (Kd.R_below (by (with_reducible repeat (first | apply Kd.R_alloc | apply Kd.R_drewN | apply Kd.R_drew)); exact HO601.out) hb); have n5_ := Aside0.mk (Kd.R_elder' (by (with_reducible repeat (first | apply Kd.R_alloc | apply Kd.R_drewN | apply Kd.R_drew)); exact HO604.out) (Kd.R_base ho51) hb); have n6_ := Aside0.mk (Kd.R_below (by (with_reducible repeat (first | apply Kd.R_alloc | apply Kd.R_drewN | apply Kd.R_drew)); exact HO608.out) hb); have n7_ := Aside0.mk (Kd.R_elder' (by (with_reducible repeat (first | apply Kd.R_alloc | apply Kd.R_drewN | apply Kd.R_drew)); exact HO611.out) (Kd.R_base ho51) hb); have n8_ := Aside0.mk (Kd.R_below (by (with_reducible repeat (first | apply Kd.R_alloc | apply Kd.R_drewN | apply Kd.R_drew)); exact HO615.out) hb); have n9_ := Aside0.mk (Kd.R_elder' (by (with_reducible repeat (first | apply Kd.R_alloc | apply Kd.R_drewN | apply Kd.R_drew)); exact HO618.out) (Kd.R_base ho51) hb); have n10_ := Aside0.mk (Kd.R_below (by (with_reducible repeat (first | apply Kd.R_alloc | apply Kd.R_drewN | apply Kd.R_drew)); exact HO622.out) hb); have n11_ := Aside0.mk (Kd.R_elder' (by (with_reducible repeat (first | apply Kd.R_alloc | apply Kd.R_drewN | apply Kd.R_drew)); exact HO627.out) (Kd.R_base ho51) hb); have n12_ := Aside0.mk (Kd.R_lower (Kd.R_new' (Kd.R_new' (Kd.R_new' (Kd.R_new' ho51 (Kd.R_lt (by (with_reducible repeat (first | apply Kd.R_alloc | apply Kd.R_drewN | apply Kd.R_drew)); exact HO604.out))) (Kd.R_lt (by (with_reducible repeat (first | apply Kd.R_alloc | apply Kd.R_drewN | apply Kd.R_drew)); exact HO611.out))) (Kd.R_lt (by (with_reducible repeat (first | apply Kd.R_alloc | apply Kd.R_drewN | apply Kd.R_drew)); exact HO618.out))) (Kd.R_lt (by (with_reducible repeat (first | apply Kd.R_alloc | apply Kd.R_drewN | apply Kd.R_drew)); exact HO627.out))) (below_size (by repeat (first | (with_reducible first | exact HB.out | apply below_alloc | apply pw_below_drewN | apply below_drew1) | exact HB.out)))); have n13_ := Aside0.mk (below_step (by repeat (first | (with_reducible first | exact HB.out | apply below_alloc | apply pw_below_drewN | apply below_drew1) | exact HB.out)) hb); clear HO584; clear HO589; clear HO593; clear HO597; clear HO601; clear HO604; clear HO608; clear HO611; clear HO615; clear HO618; clear HO622; clear HO627; clear HB; have HO584 := n0_; have HO589 := n1_; have HO593 := n2_; have HO597 := n3_; have HO601 := n4_; have HO604 := n5_; have HO608 := n6_; have HO611 := n7_; have HO615 := n8_; have HO618 := n9_; have HO622 := n10_; have HO627 := n11_; have HO630 := n12_; have HB := n13_; clear n0_ n1_ n2_ n3_ n4_ n5_ n6_ n7_ n8_ n9_ n10_ n11_ n12_ n13_; clear hb ho51; obtain ⟨Ao52, co52, eo52⟩ := Kd.R_slice HO627.out; subst eo52; obtain ⟨Ao53, co53, eo53⟩ := Kd.R_slice HO630.out; subst eo53) | (go_at_call 54; (with_reducible refine (bonsairef05_Same.calls k _ _ t625 _ _ y628 true _ ?side1 ?side2 ?side3 ?side4 A22.out).mono ?_); (case side1 => repeat (first | exact (Kd.R_reads' HO627.out).2.2 | (with_reducible refine Kd.C_alloc ?_ _) | (with_reducible refine Kd.C_drewN ?_ _) | (with_reducible refine Kd.C_drew ?_))); (case side2 => exact (Kd.R_reads' HO627.out).2.1); (case side3 => repeat (first | exact (Kd.R_reads' HO630.out).2.2 | (with_reducible refine Kd.C_alloc ?_ _) | (with_reducible refine Kd.C_drewN ?_ _) | (with_reducible refine Kd.C_drew ?_))); (case side4 => exact (Kd.R_reads' HO630.out).2.1); rintro e w' ⟨rfl, ⟨nd, rfl⟩⟩) | (go_at_call 55; (refine (flags_Lengths.calls k _ _ ([] : List Bool) t632 _ ?side1 ?side2 A24.out).mono ?_); (case side1 => exact Kd.C_nil _ _); (case side2 => exact Nat.le_refl _); rintro e w54 ⟨v633, rfl, ho0, hb⟩; have n0_ := Aside0.mk (Kd.R_below (by (with_reducible repeat (first | apply Kd.R_alloc | apply Kd.R_drewN | apply Kd.R_drew)); exact HO584.out) hb); have n1_ := Aside0.mk (Kd.R_below (by (with_reducible repeat (first | apply Kd.R_alloc | apply Kd.R_drewN | apply Kd.R_drew)); exact HO589.out) hb); have n2_ := Aside0.mk (Kd.R_below (by (with_reducible repeat (first | apply Kd.R_alloc | apply Kd.R_drewN | apply Kd.R_drew)); exact HO593.out) hb); have n3_ := Aside0.mk (Kd.R_below (by (with_reducible repeat (first | apply Kd.R_alloc | apply Kd.R_drewN | apply Kd.R_drew)); exact HO597.out) hb); have n4_ := Aside0.mk (Kd.R_below (by (with_reducible repeat (first | apply Kd.R_alloc | apply Kd.R_drewN | apply Kd.R_drew)); exact HO601.out) hb); have n5_ := Aside0.mk (Kd.R_elder' (by (with_reducible repeat (first | apply Kd.R_alloc | apply Kd.R_drewN | apply Kd.R_drew)); exact HO604.out) (Kd.R_base ho0) hb); have n6_ := Aside0.mk (Kd.R_below (by (with_reducible repeat (first | apply Kd.R_alloc | apply Kd.R_drewN | apply Kd.R_drew)); exact HO608.out) hb); have n7_ := Aside0.mk (Kd.R_elder' (by (with_reducible repeat (first | apply Kd.R_alloc | apply Kd.R_drewN | apply Kd.R_drew)); exact HO611.out) (Kd.R_base ho0) hb); have n8_ := Aside0.mk (Kd.R_below (by (with_reducible repeat (first | apply Kd.R_alloc | apply Kd.R_drewN | apply Kd.R_drew)); exact HO615.out) hb); have n9_ := Aside0.mk (Kd.R_elder' (by (with_reducible repeat (first | apply Kd.R_alloc | apply Kd.R_drewN | apply Kd.R_drew)); exact HO618.out) (Kd.R_base ho0) hb); have n10_ := Aside0.mk (Kd.R_below (by (with_reducible repeat (first | apply Kd.R_alloc | apply Kd.R_drewN | apply Kd.R_drew)); exact HO622.out) hb); have n11_ := Aside0.mk (Kd.R_elder' (by (with_reducible repeat (first | apply Kd.R_alloc | apply Kd.R_drewN | apply Kd.R_drew)); exact HO627.out) (Kd.R_base ho0) hb); have n12_ := Aside0.mk (Kd.R_elder' (by (with_reducible repeat (first | apply Kd.R_alloc | apply Kd.R_drewN | apply Kd.R_drew)); exact HO630.out) (Kd.R_base ho0) hb); have n13_ := Aside0.mk (Kd.R_lower (Kd.R_new' (Kd.R_new' (Kd.R_new' (Kd.R_new' (Kd.R_new' ho0 (Kd.R_lt (by (with_reducible repeat (first | apply Kd.R_alloc | apply Kd.R_drewN | apply Kd.R_drew)); exact HO604.out))) (Kd.R_lt (by (with_reducible repeat (first | apply Kd.R_alloc | apply Kd.R_drewN | apply Kd.R_drew)); exact HO611.out))) (Kd.R_lt (by (with_reducible repeat (first | apply Kd.R_alloc | apply Kd.R_drewN | apply Kd.R_drew)); exact HO618.out))) (Kd.R_lt (by (with_reducible repeat (first | apply Kd.R_alloc | apply Kd.R_drewN | apply Kd.R_drew)); exact HO627.out))) (Kd.R_lt (by (with_reducible repeat (first | apply Kd.R_alloc | apply Kd.R_drewN | apply Kd.R_drew)); exact HO630.out))) (below_size (by repeat (first | (with_reducible first | exact HB.out | apply below_alloc | apply pw_below_drewN | apply below_drew1) | exact HB.out)))); have n14_ := Aside0.mk (below_step (by repeat (first | (with_reducible first | exact HB.out | apply below_alloc | apply pw_below_drewN | apply below_drew1) | exact HB.out)) hb); clear HO584; clear HO589; clear HO593; clear HO597; clear HO601; clear HO604; clear HO608; clear HO611; clear HO615; clear HO618; clear HO622; clear HO627; clear HO630; clear HB; have HO584 := n0_; have HO589 := n1_; have HO593 := n2_; have HO597 := n3_; have HO601 := n4_; have HO604 := n5_; have HO608 := n6_; have HO611 := n7_; have HO615 := n8_; have HO618 := n9_; have HO622 := n10_; have HO627 := n11_; have HO630 := n12_; have HO634 := n13_; have HB := n14_; clear n0_ n1_ n2_ n3_ n4_ n5_ n6_ n7_ n8_ n9_ n10_ n11_ n12_ n13_ n14_; (try clear hb); (try clear hb2); (try clear hk); (try clear hi); (try clear ho0); obtain ⟨Ao55, co55, eo55⟩ := Kd.R_slice HO634.out; subst eo55) | (go_at_call 59; (with_reducible refine (flags_Count.calls k _ _ y582 t635 _ ?side1 ?side2 A26.out).mono ?_); (case side1 => repeat (first | exact (Kd.R_reads' HO584.out).2.2 | (with_reducible refine Kd.C_alloc ?_ _) | (with_reducible refine Kd.C_drewN ?_ _) | (with_reducible refine Kd.C_drew ?_))); (case side2 => exact (Kd.R_reads' HO584.out).2.1); rintro e w' ⟨rfl, ⟨nd, rfl⟩⟩))
                          go_ret
                          exact ⟨by first | rfl | (simp [errW_none, errW_some] <;> rfl) | (simp [*, errW_none, errW_some] <;> rfl), by repeat (first | (with_reducible first | exact HB.out | apply below_alloc | apply pw_below_drewN | apply below_drew1) | exact HB.out)⟩
                        · rw [if_neg c25] at H
                          exact absurd H (by simp)
                      · replace c23 := Bool.eq_false_iff.mpr c23
                        subst c23
                        have H1 : (none) = some r := by rw [if_neg (show ¬ (false = true) by decide)] at H; exact H
                        clear H
                        have H := H1
                        clear H1
                        exact absurd H (by simp)
                · replace c18 := Bool.eq_false_iff.mpr c18
                  subst c18
                  have H1 : (none) = some r := by rw [if_neg (show ¬ (false = true) by decide)] at H; exact H
                  clear H
                  have H := H1
                  clear H1
                  exact absurd H (by simp)
              · replace c17 := Bool.eq_false_iff.mpr c17
                subst c17
                have H1 : (none) = some r := by rw [if_neg (show ¬ (false = true) by decide)] at H; exact H
                clear H
                have H := H1
                clear H1
                exact absurd H (by simp)
            · rw [if_neg c15] at H
              exact absurd H (by simp)
          · rw [if_neg c14] at H
            exact absurd H (by simp)
        · rw [if_neg c13] at H
          exact absurd H (by simp)
      · rw [if_neg c12] at H
        exact absurd H (by simp)
    · replace c11 := Bool.eq_false_iff.mpr c11
      subst c11
      have H1 : (none) = some r := by rw [if_neg (show ¬ (false = true) by decide)] at H; exact H
      clear H
      have H := H1
      clear H1
      exact absurd H (by simp)
  · rw [if_neg c9] at H
    exact absurd H (by simp)
end Go.Proofs.Ytbgjoiccehiglaa.Print
end
section
namespace Go.Proofs.Ytbgjoiccehiglaa.Print
open Go.RowKit Go.Proofs.YtbgjoiccehiglaaW.PrintWords Go.Proofs.YtbgjoiccehiglaaW.PrintLast Go.Proofs.YtbgjoiccehiglaaW.PrintMore
attribute [local go_sem] max2_int min2_int max_two min_two max_three min_three max_four min_four
set_option linter.unusedVariables false
set_option linter.unusedSimpArgs false
def bonsairef07_Count.l0 : Nat → List Bool → Int → Int → Option (Int)
  | 0, _, _, _ => none
  | k + 1, x0, x3, x4 => if x4 < (x0.length : Int) then (if 0 ≤ x4 then (if rdOf false x0 x4 = true then (bonsairef07_Count.l0 k x0 (wrap64 (x3 + 1)) (wrap64 (x4 + 1))) else (bonsairef07_Count.l0 k x0 x3 (wrap64 (x4 + 1)))) else (none)) else (some x3)
def bonsairef07_Count.f (k : Nat) (l0 : List Bool) : Option (Int) := bonsairef07_Count.l0 k l0 0 0
end Go.Proofs.Ytbgjoiccehiglaa.Print
end
namespace Go.Proofs.Ytbgjoiccehiglaa.LibU
end Go.Proofs.Ytbgjoiccehiglaa.LibU
section
namespace Go.Proofs.Ytbgjoiccehiglaa.Print
open Go.RowKit Go.Proofs.YtbgjoiccehiglaaW.PrintWords Go.Proofs.YtbgjoiccehiglaaW.PrintLast Go.Proofs.YtbgjoiccehiglaaW.PrintMore
attribute [local go_sem] max2_int min2_int max_two min_two max_three min_three max_four min_four
set_option linter.unusedVariables false
set_option linter.unusedSimpArgs false
theorem eqA53 (d : Nat) (w : World) (x0 y0 : Int) (x1 y1 : Int) :
    (Op.equalIn (d + 2) 53 (.agg #[.int .u64 x0, .int .i64 x1]) (.agg #[.int .u64 y0, .int .i64 y1])).run Try.prog w = .ok (x0 == y0 && (x1 == y1)) w := by
  refine eqA_of Try.underlying53 (by kernel_rfl) ?_
  refine eqf_cons (by rfl) (by go_simp; rfl) (by go_simp; rfl) (by go_simp) ?_
  exact eqf_last (by rfl) (by go_simp; rfl) (by go_simp; rfl) (by go_simp)
end Go.Proofs.Ytbgjoiccehiglaa.Print
end
namespace Go.Proofs.Ytbgjoiccehiglaa.Print
end Go.Proofs.Ytbgjoiccehiglaa.Print
namespace Go.Proofs.Ytbgjoiccehiglaa.Print
end Go.Proofs.Ytbgjoiccehiglaa.Print
section
namespace Go.Proofs.Ytbgjoiccehiglaa.LibV
open Go.RowKit Go.Proofs.Ytbgjoiccehiglaa.Print Go.Proofs.YtbgjoiccehiglaaW.PrintWords Go.Proofs.YtbgjoiccehiglaaW.PrintLast Go.Proofs.YtbgjoiccehiglaaW.PrintMore Go.Proofs.Ytbgjoiccehiglaa.LibU
theorem w64 {n : Int} (h0 : -9223372036854775808 ≤ n) (h1 : n ≤ 9223372036854775807) : wrap64 n = n := by unfold wrap64; omega
end Go.Proofs.Ytbgjoiccehiglaa.LibV
end
section
namespace Go.Proofs.Ytbgjoiccehiglaa.LibA
open Go.RowKit Go.Proofs.Ytbgjoiccehiglaa.Print Go.Proofs.YtbgjoiccehiglaaW.PrintWords Go.Proofs.YtbgjoiccehiglaaW.PrintLast
def SgAt (s : ByteArray) (i m : Int) : Prop :=
  (sgH (bt s i)).2.2.2 = true ∧ m = 1 + (sgH (bt s i)).1 ∧ i + m ≤ s.size ∧ sgR s (sgH (bt s i)).1.toNat (i + 1) (sgH (bt s i)).2.1 (sgH (bt s i)).2.2.1 = true
theorem sgStep_some {s : ByteArray} {i m : Int} : sgStep s i = some m ↔ SgAt s i m := by
  unfold sgStep SgAt
  constructor
  · intro h
    split at h
    · cases h
    · split at h
      · cases h
      · split at h
        · cases h
          rename_i h1 h2 h3
          exact ⟨by simpa using h1, rfl, by omega, h3⟩
        · cases h
  · rintro ⟨h1, rfl, h3, h4⟩
    rw [if_neg (by simp [h1]), if_neg (by omega), if_pos h4]
theorem SgAt.pos {s : ByteArray} {i m : Int} (h : SgAt s i m) : 1 ≤ m ∧ m ≤ 4 ∧ i + m ≤ s.size := by
  have := sgH_rest (bt s i)
  obtain ⟨_, rfl, h3, _⟩ := h
  omega
theorem SgAt.det {s : ByteArray} {i m m' : Int} (h : SgAt s i m) (h' : SgAt s i m') : m = m' := by
  rw [h.2.1, h'.2.1]
inductive Ch (s : ByteArray) : Nat → Int → Int → Prop
  | nil (i : Int) : Ch s 0 i i
  | cons {n : Nat} {i m j : Int} (h : SgAt s i m) (t : Ch s n (i + m) j) : Ch s (n + 1) i j
theorem Ch.size {s : ByteArray} {n : Nat} {i j : Int} (h : Ch s n i j) (hi : i ≤ s.size) : j ≤ s.size := by
  induction h with
  | nil => exact hi
  | cons h t ih => exact ih h.pos.2.2
theorem Ch.snoc {s : ByteArray} {n : Nat} {i j m : Int} (h : Ch s n i j) (hm : SgAt s j m) : Ch s (n + 1) i (j + m) := by
  induction h with
  | nil => exact .cons hm (.nil _)
  | cons h t ih => exact .cons h (ih hm)
theorem Ch.trans {s : ByteArray} {n n' : Nat} {i j k : Int} (h : Ch s n i j) (h' : Ch s n' j k) : Ch s (n + n') i k := by
  induction h with
  | nil => simpa using h'
  | cons h t ih => rw [show ∀ a b : Nat, a + 1 + b = (a + b) + 1 by omega]; exact .cons h (ih h')
theorem Ch.split {s : ByteArray} {n n' : Nat} {i j j' : Int} (h : Ch s n i j) (h' : Ch s n' i j') : (∃ c, n' = n + c ∧ Ch s c j j') ∨ (∃ c m, SgAt s j' m ∧ Ch s c (j' + m) j) := by
  induction h generalizing n' with
  | nil => exact .inl ⟨n', by omega, h'⟩
  | cons h t ih =>
    cases h' with
    | nil => exact .inr ⟨_, _, h, t⟩
    | cons h2 t2 =>
      have := h.det h2
      subst this
      rcases ih t2 with ⟨c, hc, hch⟩ | r
      · exact .inl ⟨c, by omega, hch⟩
      · exact .inr r
def Vld (s : ByteArray) : Prop := ∃ c, Ch s c 0 s.size
theorem bt_take {s : ByteArray} {n : Nat} (hn : n ≤ s.size) {d : Int} (h0 : 0 ≤ d) (h1 : d < n) : bt (s.extract 0 n) d = bt s d := by
  unfold bt
  rw [dif_pos (by rw [ByteArray.size_extract]; omega), dif_pos (by omega)]
  simp [ByteArray.getElem_extract]
theorem bt_drop {s : ByteArray} {a n : Nat} (hn : n ≤ s.size) {d : Int} (h0 : 0 ≤ d) (h1 : a + d < n) : bt (s.extract a n) d = bt s (a + d) := by
  unfold bt
  rw [dif_pos (by rw [ByteArray.size_extract]; omega), dif_pos (by omega)]
  have e : a + d.toNat = ((a : Int) + d).toNat := by omega
  simp only [ByteArray.getElem_extract, e]
theorem size_take {s : ByteArray} {n : Nat} (hn : n ≤ s.size) : (s.extract 0 n).size = n := by rw [ByteArray.size_extract]; omega
end Go.Proofs.Ytbgjoiccehiglaa.LibA
end
section
namespace Go.Proofs.Ytbgjoiccehiglaa.LibB
open Go.RowKit Go.Proofs.Ytbgjoiccehiglaa.Print Go.Proofs.YtbgjoiccehiglaaW.PrintWords Go.Proofs.YtbgjoiccehiglaaW.PrintLast Go.Proofs.YtbgjoiccehiglaaW.PrintMore Go.Proofs.Ytbgjoiccehiglaa.LibA
theorem w64 {n : Int} (h0 : -9223372036854775808 ≤ n) (h1 : n ≤ 9223372036854775807) : wrap64 n = n := by unfold wrap64; omega
theorem sign_at {s : ByteArray} {i m : Int} (h0 : 0 ≤ i) (hs : s.size ≤ 140737488351232) (h : SgAt s i m) : bonsairef04_sign.f s i = some m := by
  have := h.pos
  unfold bonsairef04_sign.f
  rw [if_pos ⟨h0, by omega, by omega⟩, sgStep_some.mpr h]
  rfl
theorem count_l {s : ByteArray} (hs : s.size ≤ 140737488351232) {c : Nat} {i j : Int} (h : Ch s c i j) : ∀ (k : Nat) (n : Int), 0 ≤ i → j = s.size → 0 ≤ n → n ≤ i → bonsairef04_Count.l0 (c + 1 + k) s n i = some (n + c, true) := by
  induction h with
  | nil i =>
    intro k n h0 hj hn0 hn
    rw [show 0 + 1 + k = k + 1 by omega]
    simp only [bonsairef04_Count.l0]
    rw [if_neg (by omega)]
    simp
  | @cons n' i m j h t ih =>
    intro k n h0 hj hn0 hn
    have hp := h.pos
    rw [show n' + 1 + 1 + k = (n' + 1 + k) + 1 by omega]
    simp only [bonsairef04_Count.l0]
    rw [if_pos (by omega), sign_at h0 hs h]
    simp only [Option.bind_some]
    rw [w64 (by omega) (by omega), w64 (by omega) (by omega), ih k (n + 1) (by omega) hj (by omega) (by omega)]
    congr 2
    omega
noncomputable instance (s : ByteArray) : Decidable (Vld s) := Classical.propDecidable _
end Go.Proofs.Ytbgjoiccehiglaa.LibB
end
section
namespace Go.Proofs.Ytbgjoiccehiglaa.LibC
open Go.RowKit Go.Proofs.Ytbgjoiccehiglaa.Print Go.Proofs.YtbgjoiccehiglaaW.PrintWords Go.Proofs.YtbgjoiccehiglaaW.PrintLast Go.Proofs.YtbgjoiccehiglaaW.PrintMore Go.Proofs.Ytbgjoiccehiglaa.LibA Go.Proofs.Ytbgjoiccehiglaa.LibB
def putL : Nat → Int → List Int
  | 0, x => [x]
  | d + 1, x => if x ≥ 128 then (x % 128 + 128) :: putL d (x / 128) else [x]
theorem putL_length : ∀ (d : Nat) (x : Int), 1 ≤ (putL d x).length ∧ (putL d x).length ≤ d + 1
  | 0, x => by simp [putL]
  | d + 1, x => by
    have := putL_length d (x / 128)
    unfold putL
    split <;> simp <;> omega
end Go.Proofs.Ytbgjoiccehiglaa.LibC
end
section
namespace Go.Proofs.Ytbgjoiccehiglaa.LibD
open Go.RowKit Go.Proofs.Ytbgjoiccehiglaa.Print Go.Proofs.YtbgjoiccehiglaaW.PrintWords Go.Proofs.YtbgjoiccehiglaaW.PrintLast Go.Proofs.YtbgjoiccehiglaaW.PrintMore Go.Proofs.Ytbgjoiccehiglaa.LibA Go.Proofs.Ytbgjoiccehiglaa.LibB Go.Proofs.Ytbgjoiccehiglaa.LibC
theorem numL_is (s : ByteArray) : ∀ (d : Nat) (i n : Int), i + (d : Nat) = 10 → 0 ≤ i → i ≤ s.size → 0 ≤ n → n < 128 ^ i.toNat →
    ((numL s d i n).1 = 0 → 0 ≤ (numL s d i n).2.1 ∧ (numL s d i n).2.1 < 18446744073709551616 ∧ i < (numL s d i n).2.2 ∧ (numL s d i n).2.2 ≤ s.size) ∧ ((numL s d i n).1 = 0 ∨ (numL s d i n).1 = 2 ∨ (numL s d i n).1 = 3)
  | 0, i, n, _, _, _, _, _ => by simp [numL]
  | d + 1, i, n, hd, hi0, his, hn0, hn => by
    have hr := bt_range s i
    simp only [numL]
    by_cases hlt : i < (s.size : Int)
    · rw [if_pos hlt]
      by_cases hok : (i < 9 ∨ bt s i ≤ 1) ∧ (i = 0 ∨ bt s i ≠ 0)
      · rw [if_pos hok]
        obtain ⟨_, h64⟩ := num_step i (bt s i) n hi0 (by omega) hr.1 hr.2 hok.1 hn0 hn
        have hm0 : 0 ≤ bt s i % 128 * 128 ^ i.toNat := Int.mul_nonneg (by omega) (by have := (pack_pow9 i (by omega)).2; omega)
        by_cases hb1 : bt s i < 128
        · rw [if_pos hb1]
          exact ⟨fun _ => ⟨by show 0 ≤ n + _; omega, by show n + _ < _; omega, by show i < i + 1; omega, by show i + 1 ≤ _; omega⟩, .inl rfl⟩
        · rw [if_neg hb1]
          have hp : bt s i % 128 * 128 ^ i.toNat ≤ 127 * 128 ^ i.toNat := Int.mul_le_mul_of_nonneg_right (by omega) (by have := (pack_pow9 i (by omega)).2; omega)
          have he : (128 : Int) ^ (i + 1).toNat = 128 ^ i.toNat * 128 := by rw [show (i + 1).toNat = i.toNat + 1 by omega, Int.pow_succ]
          have := numL_is s d (i + 1) (n + bt s i % 128 * 128 ^ i.toNat) (by omega) (by omega) (by omega) (by omega) (by omega)
          exact ⟨fun h => by have := this.1 h; omega, this.2⟩
      · rw [if_neg hok]
        exact ⟨(fun h => by cases h), .inr (.inr rfl)⟩
    · rw [if_neg hlt]
      exact ⟨(fun h => by cases h), .inr (.inl rfl)⟩
end Go.Proofs.Ytbgjoiccehiglaa.LibD
end
namespace Go.Proofs.Ytbgjoiccehiglaa.Print
end Go.Proofs.Ytbgjoiccehiglaa.Print
section
namespace Go.Proofs.Ytbgjoiccehiglaa.LibE
open Go.RowKit Go.Proofs.Ytbgjoiccehiglaa.Print Go.Proofs.YtbgjoiccehiglaaW.PrintWords Go.Proofs.YtbgjoiccehiglaaW.PrintLast Go.Proofs.YtbgjoiccehiglaaW.PrintMore Go.Proofs.Ytbgjoiccehiglaa.LibA Go.Proofs.Ytbgjoiccehiglaa.LibB Go.Proofs.Ytbgjoiccehiglaa.LibC Go.Proofs.Ytbgjoiccehiglaa.LibD
def noText : ByteArray := ⟨#[]⟩
end Go.Proofs.Ytbgjoiccehiglaa.LibE
end
section
namespace Go.Proofs.Ytbgjoiccehiglaa.LibF
open Go.RowKit Go.Proofs.Ytbgjoiccehiglaa.Print Go.Proofs.YtbgjoiccehiglaaW.PrintWords Go.Proofs.YtbgjoiccehiglaaW.PrintLast Go.Proofs.YtbgjoiccehiglaaW.PrintMore Go.Proofs.Ytbgjoiccehiglaa.LibA Go.Proofs.Ytbgjoiccehiglaa.LibB
theorem bt_app_left {s t : ByteArray} {d : Int} (h0 : 0 ≤ d) (h1 : d < s.size) : bt (s ++ t) d = bt s d := by
  unfold bt
  rw [dif_pos (by rw [ByteArray.size_append]; omega), dif_pos (by omega)]
  rw [ByteArray.getElem_append_left (by omega)]
theorem bt_app_right {s t : ByteArray} {d : Int} (h0 : 0 ≤ d) (h1 : d < t.size) : bt (s ++ t) (s.size + d) = bt t d := by
  unfold bt
  rw [dif_pos (by rw [ByteArray.size_append]; omega), dif_pos (by omega)]
  rw [ByteArray.getElem_append_right (by omega)]
  have e : ((s.size : Int) + d).toNat - s.size = d.toNat := by omega
  simp only [e]
end Go.Proofs.Ytbgjoiccehiglaa.LibF
end
section
namespace Go.Proofs.Ytbgjoiccehiglaa.LibG
open Go.RowKit Go.Proofs.Ytbgjoiccehiglaa.Print Go.Proofs.YtbgjoiccehiglaaW.PrintWords Go.Proofs.YtbgjoiccehiglaaW.PrintLast Go.Proofs.YtbgjoiccehiglaaW.PrintMore Go.Proofs.Ytbgjoiccehiglaa.LibA Go.Proofs.Ytbgjoiccehiglaa.LibB Go.Proofs.Ytbgjoiccehiglaa.LibC Go.Proofs.Ytbgjoiccehiglaa.LibD Go.Proofs.Ytbgjoiccehiglaa.LibE Go.Proofs.Ytbgjoiccehiglaa.LibF
theorem ba_ext {a b : ByteArray} (hs : a.size = b.size) (h : ∀ i : Int, 0 ≤ i → i < a.size → bt a i = bt b i) : a = b := by
  apply ByteArray.ext
  apply Array.ext hs
  intro i h1 h2
  have := h i (by omega) (by have : i < a.size := h1; omega)
  unfold bt at this
  rw [dif_pos (by have : i < a.size := h1; omega), dif_pos (by have : i < b.size := h2; omega)] at this
  have e : (a[((i : Nat) : Int).toNat]'(by have : i < a.size := h1; omega)) = (b[((i : Nat) : Int).toNat]'(by have : i < b.size := h2; omega)) := UInt8.toNat_inj.mp (by omega)
  simpa [ByteArray.getElem_eq_getElem_data] using e
theorem bt_nums {xs : List Int} (hx : ∀ x ∈ xs, 0 ≤ x ∧ x < 256) {i : Nat} (hi : i < xs.length) : bt (strOfNums xs) i = xs[i] := by
  unfold bt
  rw [dif_pos (by rw [strOfNums_size]; omega)]
  have := hx xs[i] (List.getElem_mem hi)
  simp only [strOfNums, ByteArray.getElem_eq_getElem_data, Int.toNat_natCast, List.getElem_toArray, List.getElem_map]
  rw [UInt8.toNat_ofNat']
  omega
theorem putL_bytes : ∀ (d : Nat) (x : Int), 0 ≤ x → x < 128 ^ (d + 1) → ∀ y ∈ putL d x, 0 ≤ y ∧ y < 256
  | 0, x, h0, h1, y, hy => by
    simp [putL] at hy
    subst hy
    omega
  | d + 1, x, h0, h1, y, hy => by
    unfold putL at hy
    split at hy
    · rcases List.mem_cons.mp hy with rfl | hy
      · omega
      · refine putL_bytes d (x / 128) (by omega) ?_ y hy
        rw [Int.pow_succ] at h1
        exact Int.ediv_lt_of_lt_mul (by omega) h1
    · simp at hy
      subst hy
      omega
theorem pow_le {a b : Nat} (h : a ≤ b) : (128 : Int) ^ a ≤ 128 ^ b := by
  induction h with
  | refl => exact Int.le_refl _
  | @step m _ ih => rw [Int.pow_succ]; have : (0 : Int) < 128 ^ a := Int.pow_pos (by decide); omega
theorem pow_pos (n : Nat) : (0 : Int) < 128 ^ n := Int.pow_pos (by decide)
theorem num_put (s : ByteArray) : ∀ (d k : Nat) (i acc x : Int), 0 ≤ x → x < 128 ^ (d + 1) → 0 ≤ i → (i = 0 ∨ 0 < x) → x * 128 ^ i.toNat < 18446744073709551616 → d + 1 ≤ k → i + (putL d x).length ≤ s.size →
    (∀ j (hj : j < (putL d x).length), bt s (i + j) = (putL d x)[j]) → numL s k i acc = (0, acc + x * 128 ^ i.toNat, i + (putL d x).length)
  | d, 0, _, _, _, _, _, _, _, _, hk, _, _ => by omega
  | d, k + 1, i, acc, x, h0, h1, hi0, hx, h64, hk, hs, hb => by
    have hl := putL_length d x
    have hb0 := hb 0 (by omega)
    simp only [Int.add_zero, Int.natCast_zero] at hb0
    have h9 : i < 10 → (i < 9 ∨ x ≤ 1) := fun h => by
      by_cases h9 : i < 9
      · exact .inl h9
      · right
        have : i.toNat = 9 := by omega
        rw [this] at h64
        omega
    have h10 : ¬ i < 10 → x = 0 := fun h => by
      have h2 : (128 : Int) ^ 10 ≤ 128 ^ i.toNat := pow_le (by omega)
      by_cases hx0 : x = 0
      · exact hx0
      · have : 1 * 128 ^ i.toNat ≤ x * 128 ^ i.toNat := Int.mul_le_mul_of_nonneg_right (by omega) (by omega)
        omega
    simp only [numL]
    rw [if_pos (by omega)]
    by_cases hbig : x ≥ 128
    · have h8 : i < 9 := by
        by_cases h : i < 10
        · have := h9 h; omega
        · have := h10 h; omega
      cases d with
      | zero => simp at h1; omega
      | succ d =>
        have hp : putL (d + 1) x = (x % 128 + 128) :: putL d (x / 128) := by show (if x ≥ 128 then _ else _) = _; rw [if_pos hbig]
        have hc : bt s i = x % 128 + 128 := by rw [hb0]; simp only [hp, List.getElem_cons_zero]
        rw [hc, if_pos ⟨.inl h8, .inr (by omega)⟩, if_neg (by omega)]
        have e1 : (x % 128 + 128) % 128 = x % 128 := by omega
        have e2 : (128 : Int) ^ (i + 1).toNat = 128 ^ i.toNat * 128 := by rw [show (i + 1).toNat = i.toNat + 1 by omega, Int.pow_succ]
        have e3 : x * 128 ^ i.toNat = x % 128 * 128 ^ i.toNat + x / 128 * (128 ^ i.toNat * 128) := by
          have h := Int.emod_add_mul_ediv x 128
          conv => lhs; rw [← h]
          rw [Int.add_mul, Int.mul_comm 128 (x / 128), Int.mul_assoc, Int.mul_comm 128 (128 ^ i.toNat)]
        have hm : 0 ≤ x % 128 * 128 ^ i.toNat := Int.mul_nonneg (by omega) (by have := pow_pos i.toNat; omega)
        have := num_put s d k (i + 1) (acc + (x % 128 + 128) % 128 * 128 ^ i.toNat) (x / 128) (by omega) (by rw [Int.pow_succ] at h1; exact Int.ediv_lt_of_lt_mul (by omega) h1) (by omega) (.inr (by omega)) (by rw [e2]; omega) (by omega) (by rw [hp, List.length_cons] at hs; omega)
          (fun j hj => by
            have := hb (j + 1) (by rw [hp, List.length_cons]; omega)
            simp only [hp, List.getElem_cons_succ] at this
            rw [← this]
            congr 1
            omega)
        rw [this, hp, List.length_cons, e1, e2, e3]
        simp only [Prod.mk.injEq, true_and]
        constructor <;> omega
    · have hp : putL d x = [x] := by
        cases d with
        | zero => rfl
        | succ d => show (if x ≥ 128 then _ else _) = _; rw [if_neg hbig]
      have hc : bt s i = x := by rw [hb0]; simp only [hp, List.getElem_cons_zero]
      have hcond : i < 9 ∨ x ≤ 1 := by
        by_cases h : i < 10
        · exact h9 h
        · right; rw [h10 h]; decide
      rw [hc, if_pos ⟨hcond, by omega⟩, if_pos (by omega), hp, show x % 128 = x by omega]
      rfl
theorem num_canon (s : ByteArray) : ∀ (k : Nat) (i acc : Int), 0 ≤ i → i + (k + 1 : Nat) = 10 → (numL s (k + 1) i acc).1 = 0 →
    ∃ x : Int, 0 ≤ x ∧ x < 128 ^ (k + 1) ∧ (i = 0 ∨ 0 < x) ∧ (numL s (k + 1) i acc).2.1 = acc + x * 128 ^ i.toNat ∧ (numL s (k + 1) i acc).2.2 = i + (putL k x).length ∧ i + (putL k x).length ≤ s.size ∧ ∀ j (hj : j < (putL k x).length), bt s (i + j) = (putL k x)[j]
  | k, i, acc, hi, hk, h => by
    simp only [numL] at h ⊢
    have hr := bt_range s i
    by_cases hlt : i < (s.size : Int)
    · rw [if_pos hlt] at h ⊢
      by_cases hok : (i < 9 ∨ bt s i ≤ 1) ∧ (i = 0 ∨ bt s i ≠ 0)
      · rw [if_pos hok] at h ⊢
        by_cases hb : bt s i < 128
        · rw [if_pos hb] at h ⊢
          have hp : putL k (bt s i) = [bt s i] := by
            cases k with
            | zero => rfl
            | succ d => show (if bt s i ≥ 128 then _ else _) = _; rw [if_neg (by omega)]
          refine ⟨bt s i, hr.1, ?_, by omega, by rw [show bt s i % 128 = bt s i by omega], by rw [hp]; rfl, by rw [hp]; simp; omega, fun j hj => ?_⟩
          · have : (128 : Int) ^ 1 ≤ 128 ^ (k + 1) := pow_le (by omega)
            omega
          · simp only [hp, List.length_singleton] at hj ⊢
            have : j = 0 := by omega
            subst this
            simp
        · rw [if_neg hb] at h ⊢
          cases k with
          | zero => omega
          | succ k =>
            obtain ⟨x, h1, h2, h3, h4, h5, h6, h7⟩ := num_canon s k (i + 1) _ (by omega) (by omega) h
            have hx : 0 < x := by omega
            have hp : putL (k + 1) (x * 128 + bt s i % 128) = bt s i :: putL k x := by
              show (if x * 128 + bt s i % 128 ≥ 128 then ((x * 128 + bt s i % 128) % 128 + 128) :: putL k ((x * 128 + bt s i % 128) / 128) else _) = _
              rw [if_pos (by omega), show (x * 128 + bt s i % 128) / 128 = x by omega, show (x * 128 + bt s i % 128) % 128 + 128 = bt s i by omega]
            refine ⟨x * 128 + bt s i % 128, by omega, by rw [Int.pow_succ]; omega, .inr (by omega), ?_, ?_, ?_, ?_⟩
            · rw [h4, show (i + 1).toNat = i.toNat + 1 by omega, Int.pow_succ, Int.add_mul, Int.mul_assoc, Int.mul_comm 128 (128 ^ i.toNat)]
              omega
            · rw [h5, hp, List.length_cons]; omega
            · rw [hp, List.length_cons]; omega
            · intro j hj
              cases j with
              | zero => simp only [hp, List.getElem_cons_zero]; simp
              | succ j =>
                rw [hp, List.length_cons] at hj
                simp only [hp, List.getElem_cons_succ]
                rw [← h7 j (by omega)]
                congr 1
                omega
      · rw [if_neg hok] at h
        cases h
    · rw [if_neg hlt] at h
      cases h
theorem put_read (x : Int) (h0 : 0 ≤ x) (h1 : x < 18446744073709551616) (t : ByteArray) : numL (strOfNums (putL 9 x) ++ t) 10 0 0 = ((0, x, ((putL 9 x).length : Int)) : Int × Int × Int) := by
  have hx : x < 128 ^ (9 + 1) := by omega
  have hs : (strOfNums (putL 9 x)).size = (putL 9 x).length := strOfNums_size _
  have := num_put (strOfNums (putL 9 x) ++ t) 9 10 0 0 x h0 hx (by omega) (.inl rfl) (by simpa using h1) (by omega) (by rw [ByteArray.size_append, hs]; omega) (fun j hj => by
    rw [Int.zero_add, bt_app_left (by omega) (by rw [hs]; omega)]
    exact bt_nums (putL_bytes 9 x h0 hx) hj)
  rw [this]
  simp
theorem read_put (s : ByteArray) (h : (numL s 10 0 0).1 = 0) : s.extract 0 (numL s 10 0 0).2.2.toNat = strOfNums (putL 9 (numL s 10 0 0).2.1) := by
  obtain ⟨x, h1, h2, _, h4, h5, h6, h7⟩ := num_canon s 9 0 0 (by omega) (by omega) h
  have e4 : (numL s 10 0 0).2.1 = x := by simpa using h4
  have e5 : (numL s 10 0 0).2.2 = (putL 9 x).length := by simpa using h5
  have h6' : (putL 9 x).length ≤ s.size := by omega
  rw [e4, e5, Int.toNat_natCast]
  refine ba_ext (by rw [size_take h6', strOfNums_size]) (fun i h0 hi => ?_)
  rw [size_take h6'] at hi
  obtain ⟨j, rfl⟩ := Int.eq_ofNat_of_zero_le h0
  rw [bt_take h6' h0 hi, bt_nums (putL_bytes 9 x h1 h2) (by omega)]
  have := h7 j (by omega)
  rwa [Int.zero_add] at this
theorem app_cut (a b : ByteArray) : (a ++ b).extract a.size (a ++ b).size = b := by
  refine ba_ext (by rw [ByteArray.size_extract, ByteArray.size_append]; omega) (fun i h0 hi => ?_)
  rw [ByteArray.size_extract, ByteArray.size_append] at hi
  rw [bt_drop (Nat.le_refl _) h0 (by rw [ByteArray.size_append]; omega), bt_app_right h0 (by omega)]
theorem take_drop (s : ByteArray) (n : Nat) (hn : n ≤ s.size) : s.extract 0 n ++ s.extract n s.size = s := by
  refine ba_ext (by rw [ByteArray.size_append, size_take hn, ByteArray.size_extract]; omega) (fun i h0 hi => ?_)
  rw [ByteArray.size_append, size_take hn, ByteArray.size_extract] at hi
  by_cases h : i < n
  · rw [bt_app_left h0 (by rw [size_take hn]; exact h), bt_take hn h0 h]
  · obtain ⟨j, rfl⟩ : ∃ j, i = ((s.extract 0 n).size : Int) + j := ⟨i - n, by rw [size_take hn]; omega⟩
    rw [size_take hn] at h hi
    rw [bt_app_right (by omega) (by rw [ByteArray.size_extract]; omega), bt_drop (Nat.le_refl _) (by omega) (by omega), size_take hn]
end Go.Proofs.Ytbgjoiccehiglaa.LibG
end
namespace Go.Proofs.Ytbgjoiccehiglaa.Print
end Go.Proofs.Ytbgjoiccehiglaa.Print
namespace Go.Proofs.Ytbgjoiccehiglaa.Print
end Go.Proofs.Ytbgjoiccehiglaa.Print
namespace Go.Proofs.Ytbgjoiccehiglaa.Print
end Go.Proofs.Ytbgjoiccehiglaa.Print
section
namespace Go.Proofs.Ytbgjoiccehiglaa.LibW
open Go.RowKit Go.Proofs.Ytbgjoiccehiglaa.Print Go.Proofs.YtbgjoiccehiglaaW.PrintWords Go.Proofs.YtbgjoiccehiglaaW.PrintLast Go.Proofs.YtbgjoiccehiglaaW.PrintMore Go.Proofs.Ytbgjoiccehiglaa.LibU Go.Proofs.Ytbgjoiccehiglaa.LibV Go.Proofs.Ytbgjoiccehiglaa.LibC Go.Proofs.Ytbgjoiccehiglaa.LibE Go.Proofs.Ytbgjoiccehiglaa.LibG
theorem rd_at (l : List Int) (i : Nat) (h : i < l.length) : rd l (i : Int) = l[i] := by simp [rd, List.getD_eq_getElem?_getD, h]
noncomputable def put (x : Int) : ByteArray := strOfNums (putL 9 x)
theorem put_size (x : Int) : 1 ≤ (put x).size ∧ (put x).size ≤ 10 := by
  have := putL_length 9 x
  unfold put
  rw [strOfNums_size]
  omega
theorem no_app (a : ByteArray) : noText ++ a = a := by
  apply ByteArray.ext
  simp [noText]
theorem app_no (a : ByteArray) : a ++ noText = a := by
  apply ByteArray.ext
  simp [noText]
end Go.Proofs.Ytbgjoiccehiglaa.LibW
end
namespace Go.Proofs.Ytbgjoiccehiglaa.Print
end Go.Proofs.Ytbgjoiccehiglaa.Print
section
namespace Go.Proofs.Ytbgjoiccehiglaa.LibX
open Go.RowKit Go.Proofs.Ytbgjoiccehiglaa.Print Go.Proofs.YtbgjoiccehiglaaW.PrintWords Go.Proofs.YtbgjoiccehiglaaW.PrintLast Go.Proofs.YtbgjoiccehiglaaW.PrintMore Go.Proofs.Ytbgjoiccehiglaa.LibU Go.Proofs.Ytbgjoiccehiglaa.LibV Go.Proofs.Ytbgjoiccehiglaa.LibW Go.Proofs.Ytbgjoiccehiglaa.LibC Go.Proofs.Ytbgjoiccehiglaa.LibD Go.Proofs.Ytbgjoiccehiglaa.LibE Go.Proofs.Ytbgjoiccehiglaa.LibG
def numT (s : ByteArray) : Int × ByteArray × Int := if (numL s 10 0 0).1 = 0 then ((numL s 10 0 0).2.1, s.extract (numL s 10 0 0).2.2.toNat s.size, 0) else (0, s, (numL s 10 0 0).1)
theorem num_numT (s : ByteArray) (hs : s.size ≤ 9223372036854775000) : pack_Reader_Num.f s 0 = some (numT s) := by
  unfold pack_Reader_Num.f numT
  rw [if_pos hs, if_pos rfl]
  split <;> rfl
theorem num_err (s : ByteArray) (hs : s.size ≤ 9223372036854775000) {e : Int} (he : e ≠ 0) : pack_Reader_Num.f s e = some (0, s, e) := by
  unfold pack_Reader_Num.f
  rw [if_pos hs, if_neg he]
theorem numT_size (s : ByteArray) : (numT s).2.1.size ≤ s.size := by
  unfold numT
  split
  · simp only [ByteArray.size_extract]; omega
  · exact Nat.le_refl _
theorem numT_range (s : ByteArray) (hs : s.size ≤ 9223372036854775000) : 0 ≤ (numT s).1 ∧ (numT s).1 < 18446744073709551616 ∧ ((numT s).2.2 = 0 → (numT s).2.1.size < s.size) := by
  obtain ⟨h1, h2⟩ := numL_is s 10 0 0 (by omega) (by omega) (by omega) (by omega) (by decide)
  unfold numT
  split
  · rename_i h
    have := h1 h
    exact ⟨this.1, this.2.1, fun _ => by simp only [ByteArray.size_extract]; omega⟩
  · rename_i h
    exact ⟨Int.le_refl _, by show (0 : Int) < _; omega, fun h' => absurd h' h⟩
theorem numT_put (x : Int) (h0 : 0 ≤ x) (h1 : x < 18446744073709551616) (t : ByteArray) : numT (put x ++ t) = (x, t, 0) := by
  have h := put_read x h0 h1 t
  unfold numT put
  rw [h, if_pos rfl]
  have := app_cut (strOfNums (putL 9 x)) t
  rw [strOfNums_size] at this
  simp only [Int.toNat_natCast]
  rw [this]
theorem numT_was (s : ByteArray) (hs : s.size ≤ 9223372036854775000) (h : (numT s).2.2 = 0) : s = put (numT s).1 ++ (numT s).2.1 := by
  obtain ⟨h1, h2⟩ := numL_is s 10 0 0 (by omega) (by omega) (by omega) (by omega) (by decide)
  have he : (numL s 10 0 0).1 = 0 := by
    unfold numT at h
    split at h
    · assumption
    · exact h
  have := h1 he
  have h3 := read_put s he
  have h4 := take_drop s (numL s 10 0 0).2.2.toNat (by omega)
  unfold numT put
  rw [if_pos he]
  simp only
  rw [← h3, h4]
theorem noText_of {s : ByteArray} (h : s.size = 0) : s = noText := by
  refine ba_ext (by rw [h]; rfl) (fun i h0 h1 => by omega)
theorem w64' {x : Int} (h0 : 0 ≤ x) (h1 : x < 18446744073709551616) : IntKind.u64.wrap x = x := pack_wraps_u64 x h0 h1
end Go.Proofs.Ytbgjoiccehiglaa.LibX
end
section
namespace Go.Proofs.Ytbgjoiccehiglaa.LibH
open Go.RowKit Go.Proofs.Ytbgjoiccehiglaa.Print Go.Proofs.YtbgjoiccehiglaaW.PrintWords Go.Proofs.YtbgjoiccehiglaaW.PrintLast Go.Proofs.YtbgjoiccehiglaaW.PrintMore Go.Proofs.Ytbgjoiccehiglaa.LibU Go.Proofs.Ytbgjoiccehiglaa.LibV Go.Proofs.Ytbgjoiccehiglaa.LibW Go.Proofs.Ytbgjoiccehiglaa.LibX Go.Proofs.Ytbgjoiccehiglaa.LibD Go.Proofs.Ytbgjoiccehiglaa.LibE Go.Proofs.Ytbgjoiccehiglaa.LibG
def fl : Bool → List Bool → Int → List Int
  | _, [], n => [n]
  | c, x :: xs, n => if x = c then fl c xs (n + 1) else n :: fl (!c) xs 1
def lens (l : List Bool) : List Int := if l = [] then [] else fl false l 0
def Pos (ns : List Int) : Prop := ∀ n ∈ ns, 1 ≤ n
theorem fl_ne (c : Bool) (l : List Bool) (n : Int) : fl c l n ≠ [] := by
  cases l with
  | nil => simp [fl]
  | cons x xs =>
    unfold fl
    split
    · exact fl_ne c xs (n + 1)
    · simp
theorem fl_pos : ∀ (l : List Bool) (c : Bool) (n : Int), 1 ≤ n → Pos (fl c l n)
  | [], c, n, h => fun m hm => by simp [fl] at hm; omega
  | x :: xs, c, n, h => by
    unfold fl
    split
    · exact fl_pos xs c (n + 1) (by omega)
    · intro m hm
      rcases List.mem_cons.mp hm with rfl | hm
      · exact h
      · exact fl_pos xs _ 1 (by omega) m hm
theorem rdb_at (l : List Bool) (i : Nat) (h : i < l.length) : rdOf false l (i : Int) = l[i] := by simp [rdOf, List.getD_eq_getElem?_getD, h]
def lead (c : Bool) : List Bool → Nat
  | [] => 0
  | x :: xs => if x = c then lead c xs + 1 else 0
theorem lead_le (c : Bool) : ∀ l : List Bool, lead c l ≤ l.length
  | [] => Nat.le_refl _
  | x :: xs => by
    have := lead_le c xs
    unfold lead
    split <;> simp <;> omega
theorem lead_split (c : Bool) : ∀ (l : List Bool) (n : Int), fl c l n = (n + lead c l) :: (if l.drop (lead c l) = [] then [] else fl (!c) (l.drop (lead c l)) 0)
  | [], n => by simp [fl, lead]
  | x :: xs, n => by
    show (if x = c then fl c xs (n + 1) else n :: fl (!c) xs 1) = _
    unfold lead
    by_cases hx : x = c
    · have ih := lead_split c xs (n + 1)
      rw [if_pos hx, if_pos hx, ih, List.drop_succ_cons, show n + 1 + (lead c xs : Int) = n + ((lead c xs + 1 : Nat) : Int) by omega]
    · rw [if_neg hx, if_neg hx]
      have hc : x = !c := by cases x <;> cases c <;> simp_all
      simp only [List.drop_zero, Int.natCast_zero, Int.add_zero, if_neg (List.cons_ne_nil x xs)]
      have h2 : fl (!c) (x :: xs) 0 = fl (!c) xs 1 := by
        show (if x = !c then fl (!c) xs (0 + 1) else _) = _
        rw [if_pos hc]
        rfl
      rw [h2]
theorem index_l (c : Bool) (l : List Bool) (hl : (l.length : Int) ≤ 1000000000000) : ∀ (d k i : Nat), i + d = l.length → d + 1 ≤ k →
    slices_Index_bool_bool.l0 k l (!c) (l.length : Int) (i : Int) = some (if lead c (l.drop i) = (l.drop i).length then -1 else ((i + lead c (l.drop i) : Nat) : Int)) := by
  intro d
  induction d with
  | zero =>
    intro k i hd hk
    obtain ⟨k, rfl⟩ : ∃ m, k = m + 1 := ⟨k - 1, by omega⟩
    unfold slices_Index_bool_bool.l0
    rw [if_neg (by omega), List.drop_eq_nil_of_le (by omega)]
    rfl
  | succ d ih =>
    intro k i hd hk
    obtain ⟨k, rfl⟩ : ∃ m, k = m + 1 := ⟨k - 1, by omega⟩
    have hi : i < l.length := by omega
    unfold slices_Index_bool_bool.l0
    rw [if_pos (by omega), if_pos (by omega), if_pos (by omega), rdb_at l i hi, List.drop_eq_getElem_cons hi]
    unfold lead
    by_cases hx : l[i] = c
    · rw [if_neg (by rw [hx]; cases c <;> simp), w64 (by omega) (by omega), show (i : Int) + 1 = ((i + 1 : Nat) : Int) by omega, ih k (i + 1) (by omega) (by omega), if_pos hx]
      congr 1
      by_cases h : lead c (l.drop (i + 1)) = (l.drop (i + 1)).length
      · rw [if_pos h, if_pos (by rw [List.length_cons, h])]
      · rw [if_neg h, if_neg (by rw [List.length_cons]; omega)]
        omega
    · rw [if_pos (by cases c <;> cases h : l[i] <;> simp_all), if_neg hx, if_neg (by simp only [List.length_cons]; omega)]
      rfl
theorem len_l : ∀ (d k : Nat) (b : Bool) (l : List Bool) (out : List Int), 2 * l.length + (if lead (!b) l = 0 then 1 else 0) < d → (l.length : Int) ≤ 1000000000000 → (out.length : Int) + d ≤ 10000000000000 → d + l.length + 1 ≤ k →
    flags_Lengths.l0 k b l out = some (out ++ (if l = [] then [] else fl (!b) l 0)) := by
  intro d
  induction d with
  | zero => intro k b l out hd; omega
  | succ d ih =>
    intro k b l out hd hl ho hk
    obtain ⟨k, rfl⟩ : ∃ m, k = m + 1 := ⟨k - 1, by omega⟩
    unfold flags_Lengths.l0
    by_cases h0 : l = []
    · subst h0
      simp
    · have hpos : 0 < l.length := List.length_pos_iff.mpr h0
      rw [if_pos hpos, if_neg h0]
      unfold slices_Index_bool_bool.f
      have hi := index_l (!b) l hl l.length k 0 (by omega) (by omega)
      simp only [Bool.not_not, Int.natCast_zero, List.drop_zero, Nat.zero_add] at hi
      rw [hi]
      simp only [Option.bind_some]
      have hle := lead_le (!b) l
      rw [lead_split (!b) l 0, Bool.not_not, Int.zero_add]
      by_cases hall : lead (!b) l = l.length
      · rw [if_pos hall, if_pos (by omega), if_pos (by omega)]
        have hd : l.drop (lead (!b) l) = [] := List.drop_eq_nil_of_le (by omega)
        rw [hd, if_pos rfl, hall, List.drop_eq_nil_of_le (Nat.le_refl _)]
        obtain ⟨k, rfl⟩ : ∃ m, k = m + 1 := ⟨k - 1, by omega⟩
        unfold flags_Lengths.l0
        simp
      · rw [if_neg hall, if_neg (by omega), if_pos (by omega), if_pos (by omega), Int.toNat_natCast]
        have hne : l.drop (lead (!b) l) ≠ [] := by
          intro h
          have := congrArg List.length h
          rw [List.length_drop] at this
          simp at this
          omega
        rw [if_neg hne]
        have hdl : (l.drop (lead (!b) l)).length = l.length - lead (!b) l := List.length_drop
        have hm : 2 * (l.drop (lead (!b) l)).length + (if lead (!!b) (l.drop (lead (!b) l)) = 0 then 1 else 0) < d := by
          by_cases hz : lead (!b) l = 0
          · rw [if_pos hz] at hd
            have h1 : lead (!!b) (l.drop (lead (!b) l)) ≠ 0 := by
              rw [hz, List.drop_zero, Bool.not_not]
              cases l with
              | nil => exact absurd rfl h0
              | cons x xs =>
                unfold lead at hz ⊢
                split at hz
                · omega
                · rename_i h
                  rw [if_pos (by cases x <;> cases b <;> simp_all)]
                  omega
            rw [if_neg h1]
            omega
          · rw [if_neg hz] at hd
            split <;> omega
        rw [ih k (!b) (l.drop (lead (!b) l)) _ hm (by omega) (by rw [List.length_append]; simp only [List.length_cons, List.length_nil]; omega) (by omega), if_neg hne, Bool.not_not]
        simp
theorem lengths_some (l : List Bool) (hl : (l.length : Int) ≤ 1000000000000) (k : Nat) (hk : 3 * l.length + 3 ≤ k) : flags_Lengths.f k l = some (lens l) := by
  unfold flags_Lengths.f lens
  have := len_l (2 * l.length + 2) k true l [] (by split <;> omega) hl (by simp; omega) (by omega)
  simpa using this
theorem len_lens (l : List Bool) : (lens l).length ≤ l.length + 1 := by
  have h : ∀ (l : List Bool) (c : Bool) (n : Int), (fl c l n).length ≤ l.length + 1 := by
    intro l
    induction l with
    | nil => intro c n; simp [fl]
    | cons x xs ih =>
      intro c n
      unfold fl
      split
      · have := ih c (n + 1); simp only [List.length_cons]; omega
      · have := ih (!c) 1; simp only [List.length_cons]; omega
  unfold lens
  split
  · simp
  · exact h _ _ _
end Go.Proofs.Ytbgjoiccehiglaa.LibH
end
section
namespace Go.Proofs.Ytbgjoiccehiglaa.LibI
open Go.RowKit Go.Proofs.Ytbgjoiccehiglaa.Print Go.Proofs.YtbgjoiccehiglaaW.PrintWords Go.Proofs.YtbgjoiccehiglaaW.PrintLast Go.Proofs.YtbgjoiccehiglaaW.PrintMore Go.Proofs.Ytbgjoiccehiglaa.LibU Go.Proofs.Ytbgjoiccehiglaa.LibV Go.Proofs.Ytbgjoiccehiglaa.LibW Go.Proofs.Ytbgjoiccehiglaa.LibX Go.Proofs.Ytbgjoiccehiglaa.LibD Go.Proofs.Ytbgjoiccehiglaa.LibE Go.Proofs.Ytbgjoiccehiglaa.LibG Go.Proofs.Ytbgjoiccehiglaa.LibH
def cnt (l : List Bool) : Int := ((l.filter id).length : Int)
theorem cnt_cons (x : Bool) (l : List Bool) : cnt (x :: l) = (if x = true then 1 else 0) + cnt l := by
  unfold cnt
  cases x <;> simp <;> omega
theorem cnt_le (l : List Bool) : 0 ≤ cnt l ∧ cnt l ≤ l.length := by
  unfold cnt
  have := List.length_filter_le id l
  omega
theorem dropB (l : List Bool) (i : Nat) (h : i < l.length) : l.drop i = l[i] :: l.drop (i + 1) := List.drop_eq_getElem_cons h
theorem count_l (l : List Bool) (hl : (l.length : Int) ≤ 1000000000000) : ∀ (d k i : Nat) (n : Int), i + d = l.length → d + 1 ≤ k → 0 ≤ n → n ≤ i →
    flags_Count.l0 k n l (l.length : Int) (i : Int) = some (n + cnt (l.drop i)) ∧ bonsairef07_Count.l0 k l n (i : Int) = some (n + cnt (l.drop i)) := by
  intro d
  induction d with
  | zero =>
    intro k i n hd hk h0 hn
    obtain ⟨k, rfl⟩ : ∃ m, k = m + 1 := ⟨k - 1, by omega⟩
    constructor
    · unfold flags_Count.l0
      rw [if_neg (by omega), List.drop_eq_nil_of_le (by omega)]
      simp [cnt]
    · unfold bonsairef07_Count.l0
      rw [if_neg (by omega), List.drop_eq_nil_of_le (by omega)]
      simp [cnt]
  | succ d ih =>
    intro k i n hd hk h0 hn
    obtain ⟨k, rfl⟩ : ∃ m, k = m + 1 := ⟨k - 1, by omega⟩
    have hi : i < l.length := by omega
    have h1 : wrap64 ((i : Int) + 1) = ((i + 1 : Nat) : Int) := by rw [w64 (by omega) (by omega)]; omega
    have h2 : wrap64 (n + 1) = n + 1 := w64 (by omega) (by omega)
    rw [dropB l i hi, cnt_cons]
    constructor
    · unfold flags_Count.l0
      rw [if_pos (by omega), if_pos (by omega), if_pos (by omega), rdb_at l i hi, h1, h2]
      by_cases hx : l[i] = true
      · rw [if_pos hx, if_pos hx, (ih k (i + 1) (n + 1) (by omega) (by omega) (by omega) (by omega)).1, Int.add_assoc]
      · rw [if_neg hx, if_neg hx, (ih k (i + 1) n (by omega) (by omega) (by omega) (by omega)).1, Int.zero_add]
    · unfold bonsairef07_Count.l0
      rw [if_pos (by omega), if_pos (by omega), rdb_at l i hi, h1, h2]
      by_cases hx : l[i] = true
      · rw [if_pos hx, if_pos hx, (ih k (i + 1) (n + 1) (by omega) (by omega) (by omega) (by omega)).2, Int.add_assoc]
      · rw [if_neg hx, if_neg hx, (ih k (i + 1) n (by omega) (by omega) (by omega) (by omega)).2, Int.zero_add]
theorem count_some (l : List Bool) (hl : (l.length : Int) ≤ 1000000000000) (k : Nat) (hk : l.length + 1 ≤ k) : flags_Count.f k l = some (cnt l) ∧ bonsairef07_Count.f k l = some (cnt l) := by
  have := count_l l hl l.length k 0 0 (by omega) (by omega) (by omega) (by omega)
  simp only [Int.natCast_zero, List.drop_zero, Int.zero_add] at this
  exact this
end Go.Proofs.Ytbgjoiccehiglaa.LibI
end
section
namespace Go.Proofs.Ytbgjoiccehiglaa.LibJ
open Go.RowKit Go.Proofs.Ytbgjoiccehiglaa.Print Go.Proofs.YtbgjoiccehiglaaW.PrintWords Go.Proofs.YtbgjoiccehiglaaW.PrintLast Go.Proofs.YtbgjoiccehiglaaW.PrintMore Go.Proofs.Ytbgjoiccehiglaa.LibU Go.Proofs.Ytbgjoiccehiglaa.LibV Go.Proofs.Ytbgjoiccehiglaa.LibD Go.Proofs.Ytbgjoiccehiglaa.LibE Go.Proofs.Ytbgjoiccehiglaa.LibG Go.Proofs.Ytbgjoiccehiglaa.LibH Go.Proofs.Ytbgjoiccehiglaa.LibI
open Go.Proofs.Ytbgjoiccehiglaa.LibW (put put_size no_app app_no rd_at)
open Go.Proofs.Ytbgjoiccehiglaa.LibX (numT num_numT numT_size numT_range numT_put numT_was noText_of num_err w64')
theorem live07 : bonsailaw07_live.f 60 = some true := by decide +kernel
theorem live07_at {k : Nat} (hk : 60 ≤ k) : bonsailaw07_live.f k = some true := at_rounds (g := bonsailaw07_live.f) (fun k => bonsailaw07_live.mono k) hk live07
theorem same5_l (a : List Int) (hl : (a.length : Int) ≤ 1000000000000) : ∀ (d k i : Nat), i + d = a.length → d + 1 ≤ k → bonsairef05_Same.l0 k a a (i : Int) = some true := by
  intro d
  induction d with
  | zero =>
    intro k i hd hk
    obtain ⟨k, rfl⟩ : ∃ m, k = m + 1 := ⟨k - 1, by omega⟩
    unfold bonsairef05_Same.l0
    rw [if_neg (by omega)]
  | succ d ih =>
    intro k i hd hk
    obtain ⟨k, rfl⟩ : ∃ m, k = m + 1 := ⟨k - 1, by omega⟩
    unfold bonsairef05_Same.l0
    rw [if_pos (by omega), if_pos (by omega), if_pos (by omega), if_pos rfl, w64 (by omega) (by omega), show (i : Int) + 1 = ((i + 1 : Nat) : Int) by omega]
    exact ih k (i + 1) (by omega) (by omega)
theorem same5_self (a : List Int) (hl : (a.length : Int) ≤ 1000000000000) (k : Nat) (hk : a.length + 1 ≤ k) : bonsairef05_Same.f k a a = some true := by
  unfold bonsairef05_Same.f
  rw [if_pos rfl]
  exact same5_l a hl a.length k 0 (by omega) hk
end Go.Proofs.Ytbgjoiccehiglaa.LibJ
end
