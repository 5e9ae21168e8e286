/- Written by a program of this session (a turned print). Each Go function has a Lean function with the same answers, and a proof that the Go code comes to these. -/
import Derived.Test.YtbgjoiccehiglaaPrint0
import Derived.Test.YtbgjoiccehiglaaPrint2
import Derived.Test.YtbgjoiccehiglaaPrint4
namespace Go.Proofs.Ytbgjoiccehiglaa.Print
open Go.RowKit Go.Proofs.YtbgjoiccehiglaaW.PrintWords Go.Proofs.YtbgjoiccehiglaaW.PrintLast Go.Proofs.YtbgjoiccehiglaaW.PrintMore
attribute [local go_sem] max2_int min2_int max_two min_two max_three min_three max_four min_four   -- for this text's walks alone
set_option linter.unusedVariables false
set_option linter.unusedSimpArgs false

/-! ### bonsairef04_sign: function 77 -/
theorem in_val (s : ByteArray) (i lo hi : Int) (h : 0 ≤ i) : bonsairef04_in.f s i lo hi = some (decide (i < s.size ∧ lo ≤ bt s i ∧ bt s i ≤ hi)) := by
  have hr := bt_range s i
  have hw : wrap64 (bt s i) = bt s i := by unfold wrap64; omega
  unfold bonsairef04_in.f
  rw [hw]
  by_cases h1 : i < (s.size : Int)
  · rw [if_pos h1, if_pos h]
    by_cases h2 : bt s i ≥ lo
    · rw [if_pos h2]; congr 1; simp only [decide_eq_decide]; omega
    · rw [if_neg h2]; congr 1; symm; simp only [decide_eq_false_iff_not]; omega
  · rw [if_neg h1]; congr 1; symm; simp only [decide_eq_false_iff_not]; omega
theorem in_yes (s : ByteArray) (i lo hi : Int) (w : World) (h : 0 ≤ i ∧ i < s.size ∧ lo ≤ bt s i ∧ bt s i ≤ hi) :
    Calls Try.prog 97 #[.string s, .int .i64 i, .int .i64 lo, .int .i64 hi] w fun e w' => e = .returned (.bool true) ∧ ∃ n, w' = w.drewN n :=
  (bonsairef04_in.calls s i lo hi true w (by rw [in_val s i lo hi h.1]; simp; omega)).mono fun _ _ h => ⟨h.1, h.2.out⟩
theorem in_no (s : ByteArray) (i lo hi : Int) (w : World) (h : 0 ≤ i ∧ (s.size ≤ i ∨ bt s i < lo ∨ hi < bt s i)) :
    Calls Try.prog 97 #[.string s, .int .i64 i, .int .i64 lo, .int .i64 hi] w fun e w' => e = .returned (.bool false) ∧ ∃ n, w' = w.drewN n :=
  (bonsairef04_in.calls s i lo hi false w (by rw [in_val s i lo hi h.1]; simp; omega)).mono fun _ _ h => ⟨h.1, h.2.out⟩
theorem sgStep_getD (s : ByteArray) (i : Int) : (sgStep s i).getD 0 =
    if (sgH (bt s i)).2.2.2 = false then 0 else if (s.size : Int) - i ≤ (sgH (bt s i)).1 then 0
    else if sgR s (sgH (bt s i)).1.toNat (i + 1) (sgH (bt s i)).2.1 (sgH (bt s i)).2.2.1 = true then 1 + (sgH (bt s i)).1 else 0 := by
  unfold sgStep
  repeat' split
  all_goals rfl
theorem sgH_is (b : Int) : sgH b = if b < 128 then (0, 128, 191, true) else (if b < 194 then (0, 128, 191, false) else (if b < 224 then (1, 128, 191, true) else (if b < 240 then (if b = 224 then (2, 160, 191, true) else (if b = 237 then (2, 128, 159, true) else (2, 128, 191, true))) else (if b < 245 then (if b = 240 then (3, 144, 191, true) else (if b = 244 then (3, 128, 143, true) else (3, 128, 191, true))) else (0, 128, 191, false))))) := rfl
theorem sgR_0 (s : ByteArray) (i lo hi : Int) : (sgR s (0 : Int).toNat i lo hi = true) = True := by simp [sgR]
theorem sgR_1 (s : ByteArray) (i lo hi : Int) : (sgR s (1 : Int).toNat i lo hi = true) = (lo ≤ bt s i ∧ bt s i ≤ hi) := by
  show (sgR s 1 i lo hi = true) = _
  simp only [sgR, eq_iff_iff]
  (repeat' split) <;> simp <;> omega
theorem sgR_2 (s : ByteArray) (i lo hi : Int) : (sgR s (2 : Int).toNat i lo hi = true) = (lo ≤ bt s i ∧ bt s i ≤ hi ∧ 128 ≤ bt s (i + 1) ∧ bt s (i + 1) ≤ 191) := by
  show (sgR s 2 i lo hi = true) = _
  simp only [sgR, eq_iff_iff]
  (repeat' split) <;> simp <;> omega
theorem sgR_3 (s : ByteArray) (i lo hi : Int) : (sgR s (3 : Int).toNat i lo hi = true) = (lo ≤ bt s i ∧ bt s i ≤ hi ∧ 128 ≤ bt s (i + 1) ∧ bt s (i + 1) ≤ 191 ∧ 128 ≤ bt s (i + 1 + 1) ∧ bt s (i + 1 + 1) ≤ 191) := by
  show (sgR s 3 i lo hi = true) = _
  simp only [sgR, eq_iff_iff]
  (repeat' split) <;> simp <;> omega
def bonsairef04_sign.f (s : ByteArray) (i : Int) : Option Int := if 0 ≤ i ∧ i < s.size ∧ s.size ≤ 9223372036854775000 then some ((sgStep s i).getD 0) else none
def SignSaid (s : ByteArray) (i : Int) (w : World) : Prop := Calls Try.prog 77 #[.string s, .int .i64 i] w fun e w' => e = .returned (.int .i64 ((sgStep s i).getD 0)) ∧ Drawn0 w w'
set_option maxHeartbeats 8000000 in
set_option maxRecDepth 100000 in
theorem sign_asc0 (s : ByteArray) (i : Int) (w : World) (h0 : 0 ≤ i) (hi : i < s.size) (hs : s.size ≤ 9223372036854775000) (hr : 0 ≤ bt s i) (cb : bt s i < 128)  : SignSaid s i w := by
  have hv : (sgStep s i).getD 0 = 1 := by
    have hH := sgH_is (bt s i)
    repeat (first | rw [if_pos (by omega)] at hH | rw [if_neg (by omega)] at hH)
    rw [sgStep_getD, hH]
    try simp only [sgR_0, sgR_1, sgR_2, sgR_3, reduceCtorEq, if_false, if_true, show i + 1 + 1 = i + 2 by omega, show i + 2 + 1 = i + 3 by omega]
    (try repeat (first | rw [if_pos (by omega)] | rw [if_neg (by omega)]))
    all_goals first | rfl | ((repeat' split) <;> first | rfl | omega)
  unfold SignSaid
  rw [hv]
  clear hv
  go_enter Try.func77, Try.ntmps77
  go_wp2_with (first | (go_at_call 97; (with_reducible refine (in_yes _ _ _ _ _ (by omega)).mono ?_); rintro e w' ⟨rfl, ⟨nd, rfl⟩⟩) | (go_at_call 97; (with_reducible refine (in_no _ _ _ _ _ (by omega)).mono ?_); rintro e w' ⟨rfl, ⟨nd, rfl⟩⟩))
  go_ret
  exact ⟨rfl, by repeat (first | exact Drawn0.refl _ | apply Drawn0.step)⟩
set_option maxHeartbeats 8000000 in
set_option maxRecDepth 100000 in
theorem sign_bad0 (s : ByteArray) (i : Int) (w : World) (h0 : 0 ≤ i) (hi : i < s.size) (hs : s.size ≤ 9223372036854775000) (hr : 0 ≤ bt s i) (cb : (128 ≤ bt s i ∧ bt s i < 194 ∨ 245 ≤ bt s i)) (c1 : (s.size ≤ i + 2 ∨ bt s (i + 2) < 128 ∨ 191 < bt s (i + 2))) : SignSaid s i w := by
  have hv : (sgStep s i).getD 0 = 0 := by
    rcases cb with cb | cb
    all_goals
      have hH := sgH_is (bt s i)
      repeat (first | rw [if_pos (by omega)] at hH | rw [if_neg (by omega)] at hH)
      rw [sgStep_getD, hH]
      try simp only [sgR_0, sgR_1, sgR_2, sgR_3, reduceCtorEq, if_false, if_true, show i + 1 + 1 = i + 2 by omega, show i + 2 + 1 = i + 3 by omega]
      (try repeat (first | rw [if_pos (by omega)] | rw [if_neg (by omega)]))
      all_goals first | rfl | ((repeat' split) <;> first | rfl | omega)
  unfold SignSaid
  rw [hv]
  clear hv
  go_enter Try.func77, Try.ntmps77
  go_wp2_with (first | (go_at_call 97; (with_reducible refine (in_yes _ _ _ _ _ (by omega)).mono ?_); rintro e w' ⟨rfl, ⟨nd, rfl⟩⟩) | (go_at_call 97; (with_reducible refine (in_no _ _ _ _ _ (by omega)).mono ?_); rintro e w' ⟨rfl, ⟨nd, rfl⟩⟩))
  go_ret
  exact ⟨rfl, by repeat (first | exact Drawn0.refl _ | apply Drawn0.step)⟩
set_option maxHeartbeats 8000000 in
set_option maxRecDepth 100000 in
theorem sign_bad1 (s : ByteArray) (i : Int) (w : World) (h0 : 0 ≤ i) (hi : i < s.size) (hs : s.size ≤ 9223372036854775000) (hr : 0 ≤ bt s i) (cb : (128 ≤ bt s i ∧ bt s i < 194 ∨ 245 ≤ bt s i)) (c1 : (i + 2 < s.size ∧ 128 ≤ bt s (i + 2) ∧ bt s (i + 2) ≤ 191)) (c2 : (s.size ≤ i + 3 ∨ bt s (i + 3) < 128 ∨ 191 < bt s (i + 3))) : SignSaid s i w := by
  have hv : (sgStep s i).getD 0 = 0 := by
    rcases cb with cb | cb
    all_goals
      have hH := sgH_is (bt s i)
      repeat (first | rw [if_pos (by omega)] at hH | rw [if_neg (by omega)] at hH)
      rw [sgStep_getD, hH]
      try simp only [sgR_0, sgR_1, sgR_2, sgR_3, reduceCtorEq, if_false, if_true, show i + 1 + 1 = i + 2 by omega, show i + 2 + 1 = i + 3 by omega]
      (try repeat (first | rw [if_pos (by omega)] | rw [if_neg (by omega)]))
      all_goals first | rfl | ((repeat' split) <;> first | rfl | omega)
  unfold SignSaid
  rw [hv]
  clear hv
  go_enter Try.func77, Try.ntmps77
  go_wp2_with (first | (go_at_call 97; (with_reducible refine (in_yes _ _ _ _ _ (by omega)).mono ?_); rintro e w' ⟨rfl, ⟨nd, rfl⟩⟩) | (go_at_call 97; (with_reducible refine (in_no _ _ _ _ _ (by omega)).mono ?_); rintro e w' ⟨rfl, ⟨nd, rfl⟩⟩))
  go_ret
  exact ⟨rfl, by repeat (first | exact Drawn0.refl _ | apply Drawn0.step)⟩
set_option maxHeartbeats 8000000 in
set_option maxRecDepth 100000 in
theorem sign_bad2 (s : ByteArray) (i : Int) (w : World) (h0 : 0 ≤ i) (hi : i < s.size) (hs : s.size ≤ 9223372036854775000) (hr : 0 ≤ bt s i) (cb : (128 ≤ bt s i ∧ bt s i < 194 ∨ 245 ≤ bt s i)) (c1 : (i + 2 < s.size ∧ 128 ≤ bt s (i + 2) ∧ bt s (i + 2) ≤ 191)) (c2 : (i + 3 < s.size ∧ 128 ≤ bt s (i + 3) ∧ bt s (i + 3) ≤ 191)) : SignSaid s i w := by
  have hv : (sgStep s i).getD 0 = 0 := by
    rcases cb with cb | cb
    all_goals
      have hH := sgH_is (bt s i)
      repeat (first | rw [if_pos (by omega)] at hH | rw [if_neg (by omega)] at hH)
      rw [sgStep_getD, hH]
      try simp only [sgR_0, sgR_1, sgR_2, sgR_3, reduceCtorEq, if_false, if_true, show i + 1 + 1 = i + 2 by omega, show i + 2 + 1 = i + 3 by omega]
      (try repeat (first | rw [if_pos (by omega)] | rw [if_neg (by omega)]))
      all_goals first | rfl | ((repeat' split) <;> first | rfl | omega)
  unfold SignSaid
  rw [hv]
  clear hv
  go_enter Try.func77, Try.ntmps77
  go_wp2_with (first | (go_at_call 97; (with_reducible refine (in_yes _ _ _ _ _ (by omega)).mono ?_); rintro e w' ⟨rfl, ⟨nd, rfl⟩⟩) | (go_at_call 97; (with_reducible refine (in_no _ _ _ _ _ (by omega)).mono ?_); rintro e w' ⟨rfl, ⟨nd, rfl⟩⟩))
  go_ret
  exact ⟨rfl, by repeat (first | exact Drawn0.refl _ | apply Drawn0.step)⟩
set_option maxHeartbeats 8000000 in
set_option maxRecDepth 100000 in
theorem sign_two0 (s : ByteArray) (i : Int) (w : World) (h0 : 0 ≤ i) (hi : i < s.size) (hs : s.size ≤ 9223372036854775000) (hr : 0 ≤ bt s i) (cb : 194 ≤ bt s i ∧ bt s i < 224) (c1 : (i + 1 < s.size ∧ 128 ≤ bt s (i + 1) ∧ bt s (i + 1) ≤ 191)) : SignSaid s i w := by
  have hv : (sgStep s i).getD 0 = 2 := by
    have hH := sgH_is (bt s i)
    repeat (first | rw [if_pos (by omega)] at hH | rw [if_neg (by omega)] at hH)
    rw [sgStep_getD, hH]
    try simp only [sgR_0, sgR_1, sgR_2, sgR_3, reduceCtorEq, if_false, if_true, show i + 1 + 1 = i + 2 by omega, show i + 2 + 1 = i + 3 by omega]
    (try repeat (first | rw [if_pos (by omega)] | rw [if_neg (by omega)]))
    all_goals first | rfl | ((repeat' split) <;> first | rfl | omega)
  unfold SignSaid
  rw [hv]
  clear hv
  go_enter Try.func77, Try.ntmps77
  go_wp2_with (first | (go_at_call 97; (with_reducible refine (in_yes _ _ _ _ _ (by omega)).mono ?_); rintro e w' ⟨rfl, ⟨nd, rfl⟩⟩) | (go_at_call 97; (with_reducible refine (in_no _ _ _ _ _ (by omega)).mono ?_); rintro e w' ⟨rfl, ⟨nd, rfl⟩⟩))
  go_ret
  exact ⟨rfl, by repeat (first | exact Drawn0.refl _ | apply Drawn0.step)⟩
set_option maxHeartbeats 8000000 in
set_option maxRecDepth 100000 in
theorem sign_two1 (s : ByteArray) (i : Int) (w : World) (h0 : 0 ≤ i) (hi : i < s.size) (hs : s.size ≤ 9223372036854775000) (hr : 0 ≤ bt s i) (cb : 194 ≤ bt s i ∧ bt s i < 224) (c1 : (s.size ≤ i + 1 ∨ bt s (i + 1) < 128 ∨ 191 < bt s (i + 1))) (c2 : (s.size ≤ i + 2 ∨ bt s (i + 2) < 128 ∨ 191 < bt s (i + 2))) : SignSaid s i w := by
  have hv : (sgStep s i).getD 0 = 0 := by
    have hH := sgH_is (bt s i)
    repeat (first | rw [if_pos (by omega)] at hH | rw [if_neg (by omega)] at hH)
    rw [sgStep_getD, hH]
    try simp only [sgR_0, sgR_1, sgR_2, sgR_3, reduceCtorEq, if_false, if_true, show i + 1 + 1 = i + 2 by omega, show i + 2 + 1 = i + 3 by omega]
    (try repeat (first | rw [if_pos (by omega)] | rw [if_neg (by omega)]))
    all_goals first | rfl | ((repeat' split) <;> first | rfl | omega)
  unfold SignSaid
  rw [hv]
  clear hv
  go_enter Try.func77, Try.ntmps77
  go_wp2_with (first | (go_at_call 97; (with_reducible refine (in_yes _ _ _ _ _ (by omega)).mono ?_); rintro e w' ⟨rfl, ⟨nd, rfl⟩⟩) | (go_at_call 97; (with_reducible refine (in_no _ _ _ _ _ (by omega)).mono ?_); rintro e w' ⟨rfl, ⟨nd, rfl⟩⟩))
  go_ret
  exact ⟨rfl, by repeat (first | exact Drawn0.refl _ | apply Drawn0.step)⟩
set_option maxHeartbeats 8000000 in
set_option maxRecDepth 100000 in
theorem sign_two2 (s : ByteArray) (i : Int) (w : World) (h0 : 0 ≤ i) (hi : i < s.size) (hs : s.size ≤ 9223372036854775000) (hr : 0 ≤ bt s i) (cb : 194 ≤ bt s i ∧ bt s i < 224) (c1 : (s.size ≤ i + 1 ∨ bt s (i + 1) < 128 ∨ 191 < bt s (i + 1))) (c2 : (i + 2 < s.size ∧ 128 ≤ bt s (i + 2) ∧ bt s (i + 2) ≤ 191)) (c3 : (s.size ≤ i + 3 ∨ bt s (i + 3) < 128 ∨ 191 < bt s (i + 3))) : SignSaid s i w := by
  have hv : (sgStep s i).getD 0 = 0 := by
    have hH := sgH_is (bt s i)
    repeat (first | rw [if_pos (by omega)] at hH | rw [if_neg (by omega)] at hH)
    rw [sgStep_getD, hH]
    try simp only [sgR_0, sgR_1, sgR_2, sgR_3, reduceCtorEq, if_false, if_true, show i + 1 + 1 = i + 2 by omega, show i + 2 + 1 = i + 3 by omega]
    (try repeat (first | rw [if_pos (by omega)] | rw [if_neg (by omega)]))
    all_goals first | rfl | ((repeat' split) <;> first | rfl | omega)
  unfold SignSaid
  rw [hv]
  clear hv
  go_enter Try.func77, Try.ntmps77
  go_wp2_with (first | (go_at_call 97; (with_reducible refine (in_yes _ _ _ _ _ (by omega)).mono ?_); rintro e w' ⟨rfl, ⟨nd, rfl⟩⟩) | (go_at_call 97; (with_reducible refine (in_no _ _ _ _ _ (by omega)).mono ?_); rintro e w' ⟨rfl, ⟨nd, rfl⟩⟩))
  go_ret
  exact ⟨rfl, by repeat (first | exact Drawn0.refl _ | apply Drawn0.step)⟩
set_option maxHeartbeats 8000000 in
set_option maxRecDepth 100000 in
theorem sign_two3 (s : ByteArray) (i : Int) (w : World) (h0 : 0 ≤ i) (hi : i < s.size) (hs : s.size ≤ 9223372036854775000) (hr : 0 ≤ bt s i) (cb : 194 ≤ bt s i ∧ bt s i < 224) (c1 : (s.size ≤ i + 1 ∨ bt s (i + 1) < 128 ∨ 191 < bt s (i + 1))) (c2 : (i + 2 < s.size ∧ 128 ≤ bt s (i + 2) ∧ bt s (i + 2) ≤ 191)) (c3 : (i + 3 < s.size ∧ 128 ≤ bt s (i + 3) ∧ bt s (i + 3) ≤ 191)) : SignSaid s i w := by
  have hv : (sgStep s i).getD 0 = 0 := by
    have hH := sgH_is (bt s i)
    repeat (first | rw [if_pos (by omega)] at hH | rw [if_neg (by omega)] at hH)
    rw [sgStep_getD, hH]
    try simp only [sgR_0, sgR_1, sgR_2, sgR_3, reduceCtorEq, if_false, if_true, show i + 1 + 1 = i + 2 by omega, show i + 2 + 1 = i + 3 by omega]
    (try repeat (first | rw [if_pos (by omega)] | rw [if_neg (by omega)]))
    all_goals first | rfl | ((repeat' split) <;> first | rfl | omega)
  unfold SignSaid
  rw [hv]
  clear hv
  go_enter Try.func77, Try.ntmps77
  go_wp2_with (first | (go_at_call 97; (with_reducible refine (in_yes _ _ _ _ _ (by omega)).mono ?_); rintro e w' ⟨rfl, ⟨nd, rfl⟩⟩) | (go_at_call 97; (with_reducible refine (in_no _ _ _ _ _ (by omega)).mono ?_); rintro e w' ⟨rfl, ⟨nd, rfl⟩⟩))
  go_ret
  exact ⟨rfl, by repeat (first | exact Drawn0.refl _ | apply Drawn0.step)⟩
set_option maxHeartbeats 8000000 in
set_option maxRecDepth 100000 in
theorem sign_e00 (s : ByteArray) (i : Int) (w : World) (h0 : 0 ≤ i) (hi : i < s.size) (hs : s.size ≤ 9223372036854775000) (hr : 0 ≤ bt s i) (cb : bt s i = 224) (c1 : (s.size ≤ i + 2 ∨ bt s (i + 2) < 128 ∨ 191 < bt s (i + 2))) : SignSaid s i w := by
  have hv : (sgStep s i).getD 0 = 0 := by
    have hH := sgH_is (bt s i)
    repeat (first | rw [if_pos (by omega)] at hH | rw [if_neg (by omega)] at hH)
    rw [sgStep_getD, hH]
    try simp only [sgR_0, sgR_1, sgR_2, sgR_3, reduceCtorEq, if_false, if_true, show i + 1 + 1 = i + 2 by omega, show i + 2 + 1 = i + 3 by omega]
    (try repeat (first | rw [if_pos (by omega)] | rw [if_neg (by omega)]))
    all_goals first | rfl | ((repeat' split) <;> first | rfl | omega)
  unfold SignSaid
  rw [hv]
  clear hv
  go_enter Try.func77, Try.ntmps77
  go_wp2_with (first | (go_at_call 97; (with_reducible refine (in_yes _ _ _ _ _ (by omega)).mono ?_); rintro e w' ⟨rfl, ⟨nd, rfl⟩⟩) | (go_at_call 97; (with_reducible refine (in_no _ _ _ _ _ (by omega)).mono ?_); rintro e w' ⟨rfl, ⟨nd, rfl⟩⟩))
  go_ret
  exact ⟨rfl, by repeat (first | exact Drawn0.refl _ | apply Drawn0.step)⟩
set_option maxHeartbeats 8000000 in
set_option maxRecDepth 100000 in
theorem sign_e01 (s : ByteArray) (i : Int) (w : World) (h0 : 0 ≤ i) (hi : i < s.size) (hs : s.size ≤ 9223372036854775000) (hr : 0 ≤ bt s i) (cb : bt s i = 224) (c1 : (i + 2 < s.size ∧ 128 ≤ bt s (i + 2) ∧ bt s (i + 2) ≤ 191)) (c2 : (i + 1 < s.size ∧ 160 ≤ bt s (i + 1) ∧ bt s (i + 1) ≤ 191)) : SignSaid s i w := by
  have hv : (sgStep s i).getD 0 = 3 := by
    have hH := sgH_is (bt s i)
    repeat (first | rw [if_pos (by omega)] at hH | rw [if_neg (by omega)] at hH)
    rw [sgStep_getD, hH]
    try simp only [sgR_0, sgR_1, sgR_2, sgR_3, reduceCtorEq, if_false, if_true, show i + 1 + 1 = i + 2 by omega, show i + 2 + 1 = i + 3 by omega]
    (try repeat (first | rw [if_pos (by omega)] | rw [if_neg (by omega)]))
    all_goals first | rfl | ((repeat' split) <;> first | rfl | omega)
  unfold SignSaid
  rw [hv]
  clear hv
  go_enter Try.func77, Try.ntmps77
  go_wp2_with (first | (go_at_call 97; (with_reducible refine (in_yes _ _ _ _ _ (by omega)).mono ?_); rintro e w' ⟨rfl, ⟨nd, rfl⟩⟩) | (go_at_call 97; (with_reducible refine (in_no _ _ _ _ _ (by omega)).mono ?_); rintro e w' ⟨rfl, ⟨nd, rfl⟩⟩))
  go_ret
  exact ⟨rfl, by repeat (first | exact Drawn0.refl _ | apply Drawn0.step)⟩
set_option maxHeartbeats 8000000 in
set_option maxRecDepth 100000 in
theorem sign_e02 (s : ByteArray) (i : Int) (w : World) (h0 : 0 ≤ i) (hi : i < s.size) (hs : s.size ≤ 9223372036854775000) (hr : 0 ≤ bt s i) (cb : bt s i = 224) (c1 : (i + 2 < s.size ∧ 128 ≤ bt s (i + 2) ∧ bt s (i + 2) ≤ 191)) (c2 : (s.size ≤ i + 1 ∨ bt s (i + 1) < 160 ∨ 191 < bt s (i + 1))) (c3 : (s.size ≤ i + 3 ∨ bt s (i + 3) < 128 ∨ 191 < bt s (i + 3))) : SignSaid s i w := by
  have hv : (sgStep s i).getD 0 = 0 := by
    have hH := sgH_is (bt s i)
    repeat (first | rw [if_pos (by omega)] at hH | rw [if_neg (by omega)] at hH)
    rw [sgStep_getD, hH]
    try simp only [sgR_0, sgR_1, sgR_2, sgR_3, reduceCtorEq, if_false, if_true, show i + 1 + 1 = i + 2 by omega, show i + 2 + 1 = i + 3 by omega]
    (try repeat (first | rw [if_pos (by omega)] | rw [if_neg (by omega)]))
    all_goals first | rfl | ((repeat' split) <;> first | rfl | omega)
  unfold SignSaid
  rw [hv]
  clear hv
  go_enter Try.func77, Try.ntmps77
  go_wp2_with (first | (go_at_call 97; (with_reducible refine (in_yes _ _ _ _ _ (by omega)).mono ?_); rintro e w' ⟨rfl, ⟨nd, rfl⟩⟩) | (go_at_call 97; (with_reducible refine (in_no _ _ _ _ _ (by omega)).mono ?_); rintro e w' ⟨rfl, ⟨nd, rfl⟩⟩))
  go_ret
  exact ⟨rfl, by repeat (first | exact Drawn0.refl _ | apply Drawn0.step)⟩
set_option maxHeartbeats 8000000 in
set_option maxRecDepth 100000 in
theorem sign_e03 (s : ByteArray) (i : Int) (w : World) (h0 : 0 ≤ i) (hi : i < s.size) (hs : s.size ≤ 9223372036854775000) (hr : 0 ≤ bt s i) (cb : bt s i = 224) (c1 : (i + 2 < s.size ∧ 128 ≤ bt s (i + 2) ∧ bt s (i + 2) ≤ 191)) (c2 : (s.size ≤ i + 1 ∨ bt s (i + 1) < 160 ∨ 191 < bt s (i + 1))) (c3 : (i + 3 < s.size ∧ 128 ≤ bt s (i + 3) ∧ bt s (i + 3) ≤ 191)) : SignSaid s i w := by
  have hv : (sgStep s i).getD 0 = 0 := by
    have hH := sgH_is (bt s i)
    repeat (first | rw [if_pos (by omega)] at hH | rw [if_neg (by omega)] at hH)
    rw [sgStep_getD, hH]
    try simp only [sgR_0, sgR_1, sgR_2, sgR_3, reduceCtorEq, if_false, if_true, show i + 1 + 1 = i + 2 by omega, show i + 2 + 1 = i + 3 by omega]
    (try repeat (first | rw [if_pos (by omega)] | rw [if_neg (by omega)]))
    all_goals first | rfl | ((repeat' split) <;> first | rfl | omega)
  unfold SignSaid
  rw [hv]
  clear hv
  go_enter Try.func77, Try.ntmps77
  go_wp2_with (first | (go_at_call 97; (with_reducible refine (in_yes _ _ _ _ _ (by omega)).mono ?_); rintro e w' ⟨rfl, ⟨nd, rfl⟩⟩) | (go_at_call 97; (with_reducible refine (in_no _ _ _ _ _ (by omega)).mono ?_); rintro e w' ⟨rfl, ⟨nd, rfl⟩⟩))
  go_ret
  exact ⟨rfl, by repeat (first | exact Drawn0.refl _ | apply Drawn0.step)⟩
set_option maxHeartbeats 8000000 in
set_option maxRecDepth 100000 in
theorem sign_e10 (s : ByteArray) (i : Int) (w : World) (h0 : 0 ≤ i) (hi : i < s.size) (hs : s.size ≤ 9223372036854775000) (hr : 0 ≤ bt s i) (cb : 225 ≤ bt s i ∧ bt s i < 237) (c1 : (s.size ≤ i + 2 ∨ bt s (i + 2) < 128 ∨ 191 < bt s (i + 2))) : SignSaid s i w := by
  have hv : (sgStep s i).getD 0 = 0 := by
    have hH := sgH_is (bt s i)
    repeat (first | rw [if_pos (by omega)] at hH | rw [if_neg (by omega)] at hH)
    rw [sgStep_getD, hH]
    try simp only [sgR_0, sgR_1, sgR_2, sgR_3, reduceCtorEq, if_false, if_true, show i + 1 + 1 = i + 2 by omega, show i + 2 + 1 = i + 3 by omega]
    (try repeat (first | rw [if_pos (by omega)] | rw [if_neg (by omega)]))
    all_goals first | rfl | ((repeat' split) <;> first | rfl | omega)
  unfold SignSaid
  rw [hv]
  clear hv
  go_enter Try.func77, Try.ntmps77
  go_wp2_with (first | (go_at_call 97; (with_reducible refine (in_yes _ _ _ _ _ (by omega)).mono ?_); rintro e w' ⟨rfl, ⟨nd, rfl⟩⟩) | (go_at_call 97; (with_reducible refine (in_no _ _ _ _ _ (by omega)).mono ?_); rintro e w' ⟨rfl, ⟨nd, rfl⟩⟩))
  go_ret
  exact ⟨rfl, by repeat (first | exact Drawn0.refl _ | apply Drawn0.step)⟩
set_option maxHeartbeats 8000000 in
set_option maxRecDepth 100000 in
theorem sign_e11 (s : ByteArray) (i : Int) (w : World) (h0 : 0 ≤ i) (hi : i < s.size) (hs : s.size ≤ 9223372036854775000) (hr : 0 ≤ bt s i) (cb : 225 ≤ bt s i ∧ bt s i < 237) (c1 : (i + 2 < s.size ∧ 128 ≤ bt s (i + 2) ∧ bt s (i + 2) ≤ 191)) (c2 : (i + 1 < s.size ∧ 128 ≤ bt s (i + 1) ∧ bt s (i + 1) ≤ 191)) : SignSaid s i w := by
  have hv : (sgStep s i).getD 0 = 3 := by
    have hH := sgH_is (bt s i)
    repeat (first | rw [if_pos (by omega)] at hH | rw [if_neg (by omega)] at hH)
    rw [sgStep_getD, hH]
    try simp only [sgR_0, sgR_1, sgR_2, sgR_3, reduceCtorEq, if_false, if_true, show i + 1 + 1 = i + 2 by omega, show i + 2 + 1 = i + 3 by omega]
    (try repeat (first | rw [if_pos (by omega)] | rw [if_neg (by omega)]))
    all_goals first | rfl | ((repeat' split) <;> first | rfl | omega)
  unfold SignSaid
  rw [hv]
  clear hv
  go_enter Try.func77, Try.ntmps77
  go_wp2_with (first | (go_at_call 97; (with_reducible refine (in_yes _ _ _ _ _ (by omega)).mono ?_); rintro e w' ⟨rfl, ⟨nd, rfl⟩⟩) | (go_at_call 97; (with_reducible refine (in_no _ _ _ _ _ (by omega)).mono ?_); rintro e w' ⟨rfl, ⟨nd, rfl⟩⟩))
  go_ret
  exact ⟨rfl, by repeat (first | exact Drawn0.refl _ | apply Drawn0.step)⟩
set_option maxHeartbeats 8000000 in
set_option maxRecDepth 100000 in
theorem sign_e12 (s : ByteArray) (i : Int) (w : World) (h0 : 0 ≤ i) (hi : i < s.size) (hs : s.size ≤ 9223372036854775000) (hr : 0 ≤ bt s i) (cb : 225 ≤ bt s i ∧ bt s i < 237) (c1 : (i + 2 < s.size ∧ 128 ≤ bt s (i + 2) ∧ bt s (i + 2) ≤ 191)) (c2 : (s.size ≤ i + 1 ∨ bt s (i + 1) < 128 ∨ 191 < bt s (i + 1))) (c3 : (s.size ≤ i + 3 ∨ bt s (i + 3) < 128 ∨ 191 < bt s (i + 3))) : SignSaid s i w := by
  have hv : (sgStep s i).getD 0 = 0 := by
    have hH := sgH_is (bt s i)
    repeat (first | rw [if_pos (by omega)] at hH | rw [if_neg (by omega)] at hH)
    rw [sgStep_getD, hH]
    try simp only [sgR_0, sgR_1, sgR_2, sgR_3, reduceCtorEq, if_false, if_true, show i + 1 + 1 = i + 2 by omega, show i + 2 + 1 = i + 3 by omega]
    (try repeat (first | rw [if_pos (by omega)] | rw [if_neg (by omega)]))
    all_goals first | rfl | ((repeat' split) <;> first | rfl | omega)
  unfold SignSaid
  rw [hv]
  clear hv
  go_enter Try.func77, Try.ntmps77
  go_wp2_with (first | (go_at_call 97; (with_reducible refine (in_yes _ _ _ _ _ (by omega)).mono ?_); rintro e w' ⟨rfl, ⟨nd, rfl⟩⟩) | (go_at_call 97; (with_reducible refine (in_no _ _ _ _ _ (by omega)).mono ?_); rintro e w' ⟨rfl, ⟨nd, rfl⟩⟩))
  go_ret
  exact ⟨rfl, by repeat (first | exact Drawn0.refl _ | apply Drawn0.step)⟩
set_option maxHeartbeats 8000000 in
set_option maxRecDepth 100000 in
theorem sign_e13 (s : ByteArray) (i : Int) (w : World) (h0 : 0 ≤ i) (hi : i < s.size) (hs : s.size ≤ 9223372036854775000) (hr : 0 ≤ bt s i) (cb : 225 ≤ bt s i ∧ bt s i < 237) (c1 : (i + 2 < s.size ∧ 128 ≤ bt s (i + 2) ∧ bt s (i + 2) ≤ 191)) (c2 : (s.size ≤ i + 1 ∨ bt s (i + 1) < 128 ∨ 191 < bt s (i + 1))) (c3 : (i + 3 < s.size ∧ 128 ≤ bt s (i + 3) ∧ bt s (i + 3) ≤ 191)) : SignSaid s i w := by
  have hv : (sgStep s i).getD 0 = 0 := by
    have hH := sgH_is (bt s i)
    repeat (first | rw [if_pos (by omega)] at hH | rw [if_neg (by omega)] at hH)
    rw [sgStep_getD, hH]
    try simp only [sgR_0, sgR_1, sgR_2, sgR_3, reduceCtorEq, if_false, if_true, show i + 1 + 1 = i + 2 by omega, show i + 2 + 1 = i + 3 by omega]
    (try repeat (first | rw [if_pos (by omega)] | rw [if_neg (by omega)]))
    all_goals first | rfl | ((repeat' split) <;> first | rfl | omega)
  unfold SignSaid
  rw [hv]
  clear hv
  go_enter Try.func77, Try.ntmps77
  go_wp2_with (first | (go_at_call 97; (with_reducible refine (in_yes _ _ _ _ _ (by omega)).mono ?_); rintro e w' ⟨rfl, ⟨nd, rfl⟩⟩) | (go_at_call 97; (with_reducible refine (in_no _ _ _ _ _ (by omega)).mono ?_); rintro e w' ⟨rfl, ⟨nd, rfl⟩⟩))
  go_ret
  exact ⟨rfl, by repeat (first | exact Drawn0.refl _ | apply Drawn0.step)⟩
set_option maxHeartbeats 8000000 in
set_option maxRecDepth 100000 in
theorem sign_ed0 (s : ByteArray) (i : Int) (w : World) (h0 : 0 ≤ i) (hi : i < s.size) (hs : s.size ≤ 9223372036854775000) (hr : 0 ≤ bt s i) (cb : bt s i = 237) (c1 : (s.size ≤ i + 2 ∨ bt s (i + 2) < 128 ∨ 191 < bt s (i + 2))) : SignSaid s i w := by
  have hv : (sgStep s i).getD 0 = 0 := by
    have hH := sgH_is (bt s i)
    repeat (first | rw [if_pos (by omega)] at hH | rw [if_neg (by omega)] at hH)
    rw [sgStep_getD, hH]
    try simp only [sgR_0, sgR_1, sgR_2, sgR_3, reduceCtorEq, if_false, if_true, show i + 1 + 1 = i + 2 by omega, show i + 2 + 1 = i + 3 by omega]
    (try repeat (first | rw [if_pos (by omega)] | rw [if_neg (by omega)]))
    all_goals first | rfl | ((repeat' split) <;> first | rfl | omega)
  unfold SignSaid
  rw [hv]
  clear hv
  go_enter Try.func77, Try.ntmps77
  go_wp2_with (first | (go_at_call 97; (with_reducible refine (in_yes _ _ _ _ _ (by omega)).mono ?_); rintro e w' ⟨rfl, ⟨nd, rfl⟩⟩) | (go_at_call 97; (with_reducible refine (in_no _ _ _ _ _ (by omega)).mono ?_); rintro e w' ⟨rfl, ⟨nd, rfl⟩⟩))
  go_ret
  exact ⟨rfl, by repeat (first | exact Drawn0.refl _ | apply Drawn0.step)⟩
set_option maxHeartbeats 8000000 in
set_option maxRecDepth 100000 in
theorem sign_ed1 (s : ByteArray) (i : Int) (w : World) (h0 : 0 ≤ i) (hi : i < s.size) (hs : s.size ≤ 9223372036854775000) (hr : 0 ≤ bt s i) (cb : bt s i = 237) (c1 : (i + 2 < s.size ∧ 128 ≤ bt s (i + 2) ∧ bt s (i + 2) ≤ 191)) (c2 : (i + 1 < s.size ∧ 128 ≤ bt s (i + 1) ∧ bt s (i + 1) ≤ 159)) : SignSaid s i w := by
  have hv : (sgStep s i).getD 0 = 3 := by
    have hH := sgH_is (bt s i)
    repeat (first | rw [if_pos (by omega)] at hH | rw [if_neg (by omega)] at hH)
    rw [sgStep_getD, hH]
    try simp only [sgR_0, sgR_1, sgR_2, sgR_3, reduceCtorEq, if_false, if_true, show i + 1 + 1 = i + 2 by omega, show i + 2 + 1 = i + 3 by omega]
    (try repeat (first | rw [if_pos (by omega)] | rw [if_neg (by omega)]))
    all_goals first | rfl | ((repeat' split) <;> first | rfl | omega)
  unfold SignSaid
  rw [hv]
  clear hv
  go_enter Try.func77, Try.ntmps77
  go_wp2_with (first | (go_at_call 97; (with_reducible refine (in_yes _ _ _ _ _ (by omega)).mono ?_); rintro e w' ⟨rfl, ⟨nd, rfl⟩⟩) | (go_at_call 97; (with_reducible refine (in_no _ _ _ _ _ (by omega)).mono ?_); rintro e w' ⟨rfl, ⟨nd, rfl⟩⟩))
  go_ret
  exact ⟨rfl, by repeat (first | exact Drawn0.refl _ | apply Drawn0.step)⟩
set_option maxHeartbeats 8000000 in
set_option maxRecDepth 100000 in
theorem sign_ed2 (s : ByteArray) (i : Int) (w : World) (h0 : 0 ≤ i) (hi : i < s.size) (hs : s.size ≤ 9223372036854775000) (hr : 0 ≤ bt s i) (cb : bt s i = 237) (c1 : (i + 2 < s.size ∧ 128 ≤ bt s (i + 2) ∧ bt s (i + 2) ≤ 191)) (c2 : (s.size ≤ i + 1 ∨ bt s (i + 1) < 128 ∨ 159 < bt s (i + 1))) (c3 : (s.size ≤ i + 3 ∨ bt s (i + 3) < 128 ∨ 191 < bt s (i + 3))) : SignSaid s i w := by
  have hv : (sgStep s i).getD 0 = 0 := by
    have hH := sgH_is (bt s i)
    repeat (first | rw [if_pos (by omega)] at hH | rw [if_neg (by omega)] at hH)
    rw [sgStep_getD, hH]
    try simp only [sgR_0, sgR_1, sgR_2, sgR_3, reduceCtorEq, if_false, if_true, show i + 1 + 1 = i + 2 by omega, show i + 2 + 1 = i + 3 by omega]
    (try repeat (first | rw [if_pos (by omega)] | rw [if_neg (by omega)]))
    all_goals first | rfl | ((repeat' split) <;> first | rfl | omega)
  unfold SignSaid
  rw [hv]
  clear hv
  go_enter Try.func77, Try.ntmps77
  go_wp2_with (first | (go_at_call 97; (with_reducible refine (in_yes _ _ _ _ _ (by omega)).mono ?_); rintro e w' ⟨rfl, ⟨nd, rfl⟩⟩) | (go_at_call 97; (with_reducible refine (in_no _ _ _ _ _ (by omega)).mono ?_); rintro e w' ⟨rfl, ⟨nd, rfl⟩⟩))
  go_ret
  exact ⟨rfl, by repeat (first | exact Drawn0.refl _ | apply Drawn0.step)⟩
set_option maxHeartbeats 8000000 in
set_option maxRecDepth 100000 in
theorem sign_ed3 (s : ByteArray) (i : Int) (w : World) (h0 : 0 ≤ i) (hi : i < s.size) (hs : s.size ≤ 9223372036854775000) (hr : 0 ≤ bt s i) (cb : bt s i = 237) (c1 : (i + 2 < s.size ∧ 128 ≤ bt s (i + 2) ∧ bt s (i + 2) ≤ 191)) (c2 : (s.size ≤ i + 1 ∨ bt s (i + 1) < 128 ∨ 159 < bt s (i + 1))) (c3 : (i + 3 < s.size ∧ 128 ≤ bt s (i + 3) ∧ bt s (i + 3) ≤ 191)) : SignSaid s i w := by
  have hv : (sgStep s i).getD 0 = 0 := by
    have hH := sgH_is (bt s i)
    repeat (first | rw [if_pos (by omega)] at hH | rw [if_neg (by omega)] at hH)
    rw [sgStep_getD, hH]
    try simp only [sgR_0, sgR_1, sgR_2, sgR_3, reduceCtorEq, if_false, if_true, show i + 1 + 1 = i + 2 by omega, show i + 2 + 1 = i + 3 by omega]
    (try repeat (first | rw [if_pos (by omega)] | rw [if_neg (by omega)]))
    all_goals first | rfl | ((repeat' split) <;> first | rfl | omega)
  unfold SignSaid
  rw [hv]
  clear hv
  go_enter Try.func77, Try.ntmps77
  go_wp2_with (first | (go_at_call 97; (with_reducible refine (in_yes _ _ _ _ _ (by omega)).mono ?_); rintro e w' ⟨rfl, ⟨nd, rfl⟩⟩) | (go_at_call 97; (with_reducible refine (in_no _ _ _ _ _ (by omega)).mono ?_); rintro e w' ⟨rfl, ⟨nd, rfl⟩⟩))
  go_ret
  exact ⟨rfl, by repeat (first | exact Drawn0.refl _ | apply Drawn0.step)⟩
set_option maxHeartbeats 8000000 in
set_option maxRecDepth 100000 in
theorem sign_ee0 (s : ByteArray) (i : Int) (w : World) (h0 : 0 ≤ i) (hi : i < s.size) (hs : s.size ≤ 9223372036854775000) (hr : 0 ≤ bt s i) (cb : 238 ≤ bt s i ∧ bt s i < 240) (c1 : (s.size ≤ i + 2 ∨ bt s (i + 2) < 128 ∨ 191 < bt s (i + 2))) : SignSaid s i w := by
  have hv : (sgStep s i).getD 0 = 0 := by
    have hH := sgH_is (bt s i)
    repeat (first | rw [if_pos (by omega)] at hH | rw [if_neg (by omega)] at hH)
    rw [sgStep_getD, hH]
    try simp only [sgR_0, sgR_1, sgR_2, sgR_3, reduceCtorEq, if_false, if_true, show i + 1 + 1 = i + 2 by omega, show i + 2 + 1 = i + 3 by omega]
    (try repeat (first | rw [if_pos (by omega)] | rw [if_neg (by omega)]))
    all_goals first | rfl | ((repeat' split) <;> first | rfl | omega)
  unfold SignSaid
  rw [hv]
  clear hv
  go_enter Try.func77, Try.ntmps77
  go_wp2_with (first | (go_at_call 97; (with_reducible refine (in_yes _ _ _ _ _ (by omega)).mono ?_); rintro e w' ⟨rfl, ⟨nd, rfl⟩⟩) | (go_at_call 97; (with_reducible refine (in_no _ _ _ _ _ (by omega)).mono ?_); rintro e w' ⟨rfl, ⟨nd, rfl⟩⟩))
  go_ret
  exact ⟨rfl, by repeat (first | exact Drawn0.refl _ | apply Drawn0.step)⟩
set_option maxHeartbeats 8000000 in
set_option maxRecDepth 100000 in
theorem sign_ee1 (s : ByteArray) (i : Int) (w : World) (h0 : 0 ≤ i) (hi : i < s.size) (hs : s.size ≤ 9223372036854775000) (hr : 0 ≤ bt s i) (cb : 238 ≤ bt s i ∧ bt s i < 240) (c1 : (i + 2 < s.size ∧ 128 ≤ bt s (i + 2) ∧ bt s (i + 2) ≤ 191)) (c2 : (i + 1 < s.size ∧ 128 ≤ bt s (i + 1) ∧ bt s (i + 1) ≤ 191)) : SignSaid s i w := by
  have hv : (sgStep s i).getD 0 = 3 := by
    have hH := sgH_is (bt s i)
    repeat (first | rw [if_pos (by omega)] at hH | rw [if_neg (by omega)] at hH)
    rw [sgStep_getD, hH]
    try simp only [sgR_0, sgR_1, sgR_2, sgR_3, reduceCtorEq, if_false, if_true, show i + 1 + 1 = i + 2 by omega, show i + 2 + 1 = i + 3 by omega]
    (try repeat (first | rw [if_pos (by omega)] | rw [if_neg (by omega)]))
    all_goals first | rfl | ((repeat' split) <;> first | rfl | omega)
  unfold SignSaid
  rw [hv]
  clear hv
  go_enter Try.func77, Try.ntmps77
  go_wp2_with (first | (go_at_call 97; (with_reducible refine (in_yes _ _ _ _ _ (by omega)).mono ?_); rintro e w' ⟨rfl, ⟨nd, rfl⟩⟩) | (go_at_call 97; (with_reducible refine (in_no _ _ _ _ _ (by omega)).mono ?_); rintro e w' ⟨rfl, ⟨nd, rfl⟩⟩))
  go_ret
  exact ⟨rfl, by repeat (first | exact Drawn0.refl _ | apply Drawn0.step)⟩
set_option maxHeartbeats 8000000 in
set_option maxRecDepth 100000 in
theorem sign_ee2 (s : ByteArray) (i : Int) (w : World) (h0 : 0 ≤ i) (hi : i < s.size) (hs : s.size ≤ 9223372036854775000) (hr : 0 ≤ bt s i) (cb : 238 ≤ bt s i ∧ bt s i < 240) (c1 : (i + 2 < s.size ∧ 128 ≤ bt s (i + 2) ∧ bt s (i + 2) ≤ 191)) (c2 : (s.size ≤ i + 1 ∨ bt s (i + 1) < 128 ∨ 191 < bt s (i + 1))) (c3 : (s.size ≤ i + 3 ∨ bt s (i + 3) < 128 ∨ 191 < bt s (i + 3))) : SignSaid s i w := by
  have hv : (sgStep s i).getD 0 = 0 := by
    have hH := sgH_is (bt s i)
    repeat (first | rw [if_pos (by omega)] at hH | rw [if_neg (by omega)] at hH)
    rw [sgStep_getD, hH]
    try simp only [sgR_0, sgR_1, sgR_2, sgR_3, reduceCtorEq, if_false, if_true, show i + 1 + 1 = i + 2 by omega, show i + 2 + 1 = i + 3 by omega]
    (try repeat (first | rw [if_pos (by omega)] | rw [if_neg (by omega)]))
    all_goals first | rfl | ((repeat' split) <;> first | rfl | omega)
  unfold SignSaid
  rw [hv]
  clear hv
  go_enter Try.func77, Try.ntmps77
  go_wp2_with (first | (go_at_call 97; (with_reducible refine (in_yes _ _ _ _ _ (by omega)).mono ?_); rintro e w' ⟨rfl, ⟨nd, rfl⟩⟩) | (go_at_call 97; (with_reducible refine (in_no _ _ _ _ _ (by omega)).mono ?_); rintro e w' ⟨rfl, ⟨nd, rfl⟩⟩))
  go_ret
  exact ⟨rfl, by repeat (first | exact Drawn0.refl _ | apply Drawn0.step)⟩
set_option maxHeartbeats 8000000 in
set_option maxRecDepth 100000 in
theorem sign_ee3 (s : ByteArray) (i : Int) (w : World) (h0 : 0 ≤ i) (hi : i < s.size) (hs : s.size ≤ 9223372036854775000) (hr : 0 ≤ bt s i) (cb : 238 ≤ bt s i ∧ bt s i < 240) (c1 : (i + 2 < s.size ∧ 128 ≤ bt s (i + 2) ∧ bt s (i + 2) ≤ 191)) (c2 : (s.size ≤ i + 1 ∨ bt s (i + 1) < 128 ∨ 191 < bt s (i + 1))) (c3 : (i + 3 < s.size ∧ 128 ≤ bt s (i + 3) ∧ bt s (i + 3) ≤ 191)) : SignSaid s i w := by
  have hv : (sgStep s i).getD 0 = 0 := by
    have hH := sgH_is (bt s i)
    repeat (first | rw [if_pos (by omega)] at hH | rw [if_neg (by omega)] at hH)
    rw [sgStep_getD, hH]
    try simp only [sgR_0, sgR_1, sgR_2, sgR_3, reduceCtorEq, if_false, if_true, show i + 1 + 1 = i + 2 by omega, show i + 2 + 1 = i + 3 by omega]
    (try repeat (first | rw [if_pos (by omega)] | rw [if_neg (by omega)]))
    all_goals first | rfl | ((repeat' split) <;> first | rfl | omega)
  unfold SignSaid
  rw [hv]
  clear hv
  go_enter Try.func77, Try.ntmps77
  go_wp2_with (first | (go_at_call 97; (with_reducible refine (in_yes _ _ _ _ _ (by omega)).mono ?_); rintro e w' ⟨rfl, ⟨nd, rfl⟩⟩) | (go_at_call 97; (with_reducible refine (in_no _ _ _ _ _ (by omega)).mono ?_); rintro e w' ⟨rfl, ⟨nd, rfl⟩⟩))
  go_ret
  exact ⟨rfl, by repeat (first | exact Drawn0.refl _ | apply Drawn0.step)⟩
set_option maxHeartbeats 8000000 in
set_option maxRecDepth 100000 in
theorem sign_f00 (s : ByteArray) (i : Int) (w : World) (h0 : 0 ≤ i) (hi : i < s.size) (hs : s.size ≤ 9223372036854775000) (hr : 0 ≤ bt s i) (cb : bt s i = 240) (c1 : (s.size ≤ i + 2 ∨ bt s (i + 2) < 128 ∨ 191 < bt s (i + 2))) : SignSaid s i w := by
  have hv : (sgStep s i).getD 0 = 0 := by
    have hH := sgH_is (bt s i)
    repeat (first | rw [if_pos (by omega)] at hH | rw [if_neg (by omega)] at hH)
    rw [sgStep_getD, hH]
    try simp only [sgR_0, sgR_1, sgR_2, sgR_3, reduceCtorEq, if_false, if_true, show i + 1 + 1 = i + 2 by omega, show i + 2 + 1 = i + 3 by omega]
    (try repeat (first | rw [if_pos (by omega)] | rw [if_neg (by omega)]))
    all_goals first | rfl | ((repeat' split) <;> first | rfl | omega)
  unfold SignSaid
  rw [hv]
  clear hv
  go_enter Try.func77, Try.ntmps77
  go_wp2_with (first | (go_at_call 97; (with_reducible refine (in_yes _ _ _ _ _ (by omega)).mono ?_); rintro e w' ⟨rfl, ⟨nd, rfl⟩⟩) | (go_at_call 97; (with_reducible refine (in_no _ _ _ _ _ (by omega)).mono ?_); rintro e w' ⟨rfl, ⟨nd, rfl⟩⟩))
  go_ret
  exact ⟨rfl, by repeat (first | exact Drawn0.refl _ | apply Drawn0.step)⟩
set_option maxHeartbeats 8000000 in
set_option maxRecDepth 100000 in
theorem sign_f01 (s : ByteArray) (i : Int) (w : World) (h0 : 0 ≤ i) (hi : i < s.size) (hs : s.size ≤ 9223372036854775000) (hr : 0 ≤ bt s i) (cb : bt s i = 240) (c1 : (i + 2 < s.size ∧ 128 ≤ bt s (i + 2) ∧ bt s (i + 2) ≤ 191)) (c2 : (s.size ≤ i + 3 ∨ bt s (i + 3) < 128 ∨ 191 < bt s (i + 3))) : SignSaid s i w := by
  have hv : (sgStep s i).getD 0 = 0 := by
    have hH := sgH_is (bt s i)
    repeat (first | rw [if_pos (by omega)] at hH | rw [if_neg (by omega)] at hH)
    rw [sgStep_getD, hH]
    try simp only [sgR_0, sgR_1, sgR_2, sgR_3, reduceCtorEq, if_false, if_true, show i + 1 + 1 = i + 2 by omega, show i + 2 + 1 = i + 3 by omega]
    (try repeat (first | rw [if_pos (by omega)] | rw [if_neg (by omega)]))
    all_goals first | rfl | ((repeat' split) <;> first | rfl | omega)
  unfold SignSaid
  rw [hv]
  clear hv
  go_enter Try.func77, Try.ntmps77
  go_wp2_with (first | (go_at_call 97; (with_reducible refine (in_yes _ _ _ _ _ (by omega)).mono ?_); rintro e w' ⟨rfl, ⟨nd, rfl⟩⟩) | (go_at_call 97; (with_reducible refine (in_no _ _ _ _ _ (by omega)).mono ?_); rintro e w' ⟨rfl, ⟨nd, rfl⟩⟩))
  go_ret
  exact ⟨rfl, by repeat (first | exact Drawn0.refl _ | apply Drawn0.step)⟩
set_option maxHeartbeats 8000000 in
set_option maxRecDepth 100000 in
theorem sign_f02 (s : ByteArray) (i : Int) (w : World) (h0 : 0 ≤ i) (hi : i < s.size) (hs : s.size ≤ 9223372036854775000) (hr : 0 ≤ bt s i) (cb : bt s i = 240) (c1 : (i + 2 < s.size ∧ 128 ≤ bt s (i + 2) ∧ bt s (i + 2) ≤ 191)) (c2 : (i + 3 < s.size ∧ 128 ≤ bt s (i + 3) ∧ bt s (i + 3) ≤ 191)) (c3 : (i + 1 < s.size ∧ 144 ≤ bt s (i + 1) ∧ bt s (i + 1) ≤ 191)) : SignSaid s i w := by
  have hv : (sgStep s i).getD 0 = 4 := by
    have hH := sgH_is (bt s i)
    repeat (first | rw [if_pos (by omega)] at hH | rw [if_neg (by omega)] at hH)
    rw [sgStep_getD, hH]
    try simp only [sgR_0, sgR_1, sgR_2, sgR_3, reduceCtorEq, if_false, if_true, show i + 1 + 1 = i + 2 by omega, show i + 2 + 1 = i + 3 by omega]
    (try repeat (first | rw [if_pos (by omega)] | rw [if_neg (by omega)]))
    all_goals first | rfl | ((repeat' split) <;> first | rfl | omega)
  unfold SignSaid
  rw [hv]
  clear hv
  go_enter Try.func77, Try.ntmps77
  go_wp2_with (first | (go_at_call 97; (with_reducible refine (in_yes _ _ _ _ _ (by omega)).mono ?_); rintro e w' ⟨rfl, ⟨nd, rfl⟩⟩) | (go_at_call 97; (with_reducible refine (in_no _ _ _ _ _ (by omega)).mono ?_); rintro e w' ⟨rfl, ⟨nd, rfl⟩⟩))
  go_ret
  exact ⟨rfl, by repeat (first | exact Drawn0.refl _ | apply Drawn0.step)⟩
set_option maxHeartbeats 8000000 in
set_option maxRecDepth 100000 in
theorem sign_f03 (s : ByteArray) (i : Int) (w : World) (h0 : 0 ≤ i) (hi : i < s.size) (hs : s.size ≤ 9223372036854775000) (hr : 0 ≤ bt s i) (cb : bt s i = 240) (c1 : (i + 2 < s.size ∧ 128 ≤ bt s (i + 2) ∧ bt s (i + 2) ≤ 191)) (c2 : (i + 3 < s.size ∧ 128 ≤ bt s (i + 3) ∧ bt s (i + 3) ≤ 191)) (c3 : (s.size ≤ i + 1 ∨ bt s (i + 1) < 144 ∨ 191 < bt s (i + 1))) : SignSaid s i w := by
  have hv : (sgStep s i).getD 0 = 0 := by
    have hH := sgH_is (bt s i)
    repeat (first | rw [if_pos (by omega)] at hH | rw [if_neg (by omega)] at hH)
    rw [sgStep_getD, hH]
    try simp only [sgR_0, sgR_1, sgR_2, sgR_3, reduceCtorEq, if_false, if_true, show i + 1 + 1 = i + 2 by omega, show i + 2 + 1 = i + 3 by omega]
    (try repeat (first | rw [if_pos (by omega)] | rw [if_neg (by omega)]))
    all_goals first | rfl | ((repeat' split) <;> first | rfl | omega)
  unfold SignSaid
  rw [hv]
  clear hv
  go_enter Try.func77, Try.ntmps77
  go_wp2_with (first | (go_at_call 97; (with_reducible refine (in_yes _ _ _ _ _ (by omega)).mono ?_); rintro e w' ⟨rfl, ⟨nd, rfl⟩⟩) | (go_at_call 97; (with_reducible refine (in_no _ _ _ _ _ (by omega)).mono ?_); rintro e w' ⟨rfl, ⟨nd, rfl⟩⟩))
  go_ret
  exact ⟨rfl, by repeat (first | exact Drawn0.refl _ | apply Drawn0.step)⟩
set_option maxHeartbeats 8000000 in
set_option maxRecDepth 100000 in
theorem sign_f10 (s : ByteArray) (i : Int) (w : World) (h0 : 0 ≤ i) (hi : i < s.size) (hs : s.size ≤ 9223372036854775000) (hr : 0 ≤ bt s i) (cb : 241 ≤ bt s i ∧ bt s i < 244) (c1 : (s.size ≤ i + 2 ∨ bt s (i + 2) < 128 ∨ 191 < bt s (i + 2))) : SignSaid s i w := by
  have hv : (sgStep s i).getD 0 = 0 := by
    have hH := sgH_is (bt s i)
    repeat (first | rw [if_pos (by omega)] at hH | rw [if_neg (by omega)] at hH)
    rw [sgStep_getD, hH]
    try simp only [sgR_0, sgR_1, sgR_2, sgR_3, reduceCtorEq, if_false, if_true, show i + 1 + 1 = i + 2 by omega, show i + 2 + 1 = i + 3 by omega]
    (try repeat (first | rw [if_pos (by omega)] | rw [if_neg (by omega)]))
    all_goals first | rfl | ((repeat' split) <;> first | rfl | omega)
  unfold SignSaid
  rw [hv]
  clear hv
  go_enter Try.func77, Try.ntmps77
  go_wp2_with (first | (go_at_call 97; (with_reducible refine (in_yes _ _ _ _ _ (by omega)).mono ?_); rintro e w' ⟨rfl, ⟨nd, rfl⟩⟩) | (go_at_call 97; (with_reducible refine (in_no _ _ _ _ _ (by omega)).mono ?_); rintro e w' ⟨rfl, ⟨nd, rfl⟩⟩))
  go_ret
  exact ⟨rfl, by repeat (first | exact Drawn0.refl _ | apply Drawn0.step)⟩
set_option maxHeartbeats 8000000 in
set_option maxRecDepth 100000 in
theorem sign_f11 (s : ByteArray) (i : Int) (w : World) (h0 : 0 ≤ i) (hi : i < s.size) (hs : s.size ≤ 9223372036854775000) (hr : 0 ≤ bt s i) (cb : 241 ≤ bt s i ∧ bt s i < 244) (c1 : (i + 2 < s.size ∧ 128 ≤ bt s (i + 2) ∧ bt s (i + 2) ≤ 191)) (c2 : (s.size ≤ i + 3 ∨ bt s (i + 3) < 128 ∨ 191 < bt s (i + 3))) : SignSaid s i w := by
  have hv : (sgStep s i).getD 0 = 0 := by
    have hH := sgH_is (bt s i)
    repeat (first | rw [if_pos (by omega)] at hH | rw [if_neg (by omega)] at hH)
    rw [sgStep_getD, hH]
    try simp only [sgR_0, sgR_1, sgR_2, sgR_3, reduceCtorEq, if_false, if_true, show i + 1 + 1 = i + 2 by omega, show i + 2 + 1 = i + 3 by omega]
    (try repeat (first | rw [if_pos (by omega)] | rw [if_neg (by omega)]))
    all_goals first | rfl | ((repeat' split) <;> first | rfl | omega)
  unfold SignSaid
  rw [hv]
  clear hv
  go_enter Try.func77, Try.ntmps77
  go_wp2_with (first | (go_at_call 97; (with_reducible refine (in_yes _ _ _ _ _ (by omega)).mono ?_); rintro e w' ⟨rfl, ⟨nd, rfl⟩⟩) | (go_at_call 97; (with_reducible refine (in_no _ _ _ _ _ (by omega)).mono ?_); rintro e w' ⟨rfl, ⟨nd, rfl⟩⟩))
  go_ret
  exact ⟨rfl, by repeat (first | exact Drawn0.refl _ | apply Drawn0.step)⟩
set_option maxHeartbeats 8000000 in
set_option maxRecDepth 100000 in
theorem sign_f12 (s : ByteArray) (i : Int) (w : World) (h0 : 0 ≤ i) (hi : i < s.size) (hs : s.size ≤ 9223372036854775000) (hr : 0 ≤ bt s i) (cb : 241 ≤ bt s i ∧ bt s i < 244) (c1 : (i + 2 < s.size ∧ 128 ≤ bt s (i + 2) ∧ bt s (i + 2) ≤ 191)) (c2 : (i + 3 < s.size ∧ 128 ≤ bt s (i + 3) ∧ bt s (i + 3) ≤ 191)) (c3 : (i + 1 < s.size ∧ 128 ≤ bt s (i + 1) ∧ bt s (i + 1) ≤ 191)) : SignSaid s i w := by
  have hv : (sgStep s i).getD 0 = 4 := by
    have hH := sgH_is (bt s i)
    repeat (first | rw [if_pos (by omega)] at hH | rw [if_neg (by omega)] at hH)
    rw [sgStep_getD, hH]
    try simp only [sgR_0, sgR_1, sgR_2, sgR_3, reduceCtorEq, if_false, if_true, show i + 1 + 1 = i + 2 by omega, show i + 2 + 1 = i + 3 by omega]
    (try repeat (first | rw [if_pos (by omega)] | rw [if_neg (by omega)]))
    all_goals first | rfl | ((repeat' split) <;> first | rfl | omega)
  unfold SignSaid
  rw [hv]
  clear hv
  go_enter Try.func77, Try.ntmps77
  go_wp2_with (first | (go_at_call 97; (with_reducible refine (in_yes _ _ _ _ _ (by omega)).mono ?_); rintro e w' ⟨rfl, ⟨nd, rfl⟩⟩) | (go_at_call 97; (with_reducible refine (in_no _ _ _ _ _ (by omega)).mono ?_); rintro e w' ⟨rfl, ⟨nd, rfl⟩⟩))
  go_ret
  exact ⟨rfl, by repeat (first | exact Drawn0.refl _ | apply Drawn0.step)⟩
set_option maxHeartbeats 8000000 in
set_option maxRecDepth 100000 in
theorem sign_f13 (s : ByteArray) (i : Int) (w : World) (h0 : 0 ≤ i) (hi : i < s.size) (hs : s.size ≤ 9223372036854775000) (hr : 0 ≤ bt s i) (cb : 241 ≤ bt s i ∧ bt s i < 244) (c1 : (i + 2 < s.size ∧ 128 ≤ bt s (i + 2) ∧ bt s (i + 2) ≤ 191)) (c2 : (i + 3 < s.size ∧ 128 ≤ bt s (i + 3) ∧ bt s (i + 3) ≤ 191)) (c3 : (s.size ≤ i + 1 ∨ bt s (i + 1) < 128 ∨ 191 < bt s (i + 1))) : SignSaid s i w := by
  have hv : (sgStep s i).getD 0 = 0 := by
    have hH := sgH_is (bt s i)
    repeat (first | rw [if_pos (by omega)] at hH | rw [if_neg (by omega)] at hH)
    rw [sgStep_getD, hH]
    try simp only [sgR_0, sgR_1, sgR_2, sgR_3, reduceCtorEq, if_false, if_true, show i + 1 + 1 = i + 2 by omega, show i + 2 + 1 = i + 3 by omega]
    (try repeat (first | rw [if_pos (by omega)] | rw [if_neg (by omega)]))
    all_goals first | rfl | ((repeat' split) <;> first | rfl | omega)
  unfold SignSaid
  rw [hv]
  clear hv
  go_enter Try.func77, Try.ntmps77
  go_wp2_with (first | (go_at_call 97; (with_reducible refine (in_yes _ _ _ _ _ (by omega)).mono ?_); rintro e w' ⟨rfl, ⟨nd, rfl⟩⟩) | (go_at_call 97; (with_reducible refine (in_no _ _ _ _ _ (by omega)).mono ?_); rintro e w' ⟨rfl, ⟨nd, rfl⟩⟩))
  go_ret
  exact ⟨rfl, by repeat (first | exact Drawn0.refl _ | apply Drawn0.step)⟩
set_option maxHeartbeats 8000000 in
set_option maxRecDepth 100000 in
theorem sign_f40 (s : ByteArray) (i : Int) (w : World) (h0 : 0 ≤ i) (hi : i < s.size) (hs : s.size ≤ 9223372036854775000) (hr : 0 ≤ bt s i) (cb : bt s i = 244) (c1 : (s.size ≤ i + 2 ∨ bt s (i + 2) < 128 ∨ 191 < bt s (i + 2))) : SignSaid s i w := by
  have hv : (sgStep s i).getD 0 = 0 := by
    have hH := sgH_is (bt s i)
    repeat (first | rw [if_pos (by omega)] at hH | rw [if_neg (by omega)] at hH)
    rw [sgStep_getD, hH]
    try simp only [sgR_0, sgR_1, sgR_2, sgR_3, reduceCtorEq, if_false, if_true, show i + 1 + 1 = i + 2 by omega, show i + 2 + 1 = i + 3 by omega]
    (try repeat (first | rw [if_pos (by omega)] | rw [if_neg (by omega)]))
    all_goals first | rfl | ((repeat' split) <;> first | rfl | omega)
  unfold SignSaid
  rw [hv]
  clear hv
  go_enter Try.func77, Try.ntmps77
  go_wp2_with (first | (go_at_call 97; (with_reducible refine (in_yes _ _ _ _ _ (by omega)).mono ?_); rintro e w' ⟨rfl, ⟨nd, rfl⟩⟩) | (go_at_call 97; (with_reducible refine (in_no _ _ _ _ _ (by omega)).mono ?_); rintro e w' ⟨rfl, ⟨nd, rfl⟩⟩))
  go_ret
  exact ⟨rfl, by repeat (first | exact Drawn0.refl _ | apply Drawn0.step)⟩
set_option maxHeartbeats 8000000 in
set_option maxRecDepth 100000 in
theorem sign_f41 (s : ByteArray) (i : Int) (w : World) (h0 : 0 ≤ i) (hi : i < s.size) (hs : s.size ≤ 9223372036854775000) (hr : 0 ≤ bt s i) (cb : bt s i = 244) (c1 : (i + 2 < s.size ∧ 128 ≤ bt s (i + 2) ∧ bt s (i + 2) ≤ 191)) (c2 : (s.size ≤ i + 3 ∨ bt s (i + 3) < 128 ∨ 191 < bt s (i + 3))) : SignSaid s i w := by
  have hv : (sgStep s i).getD 0 = 0 := by
    have hH := sgH_is (bt s i)
    repeat (first | rw [if_pos (by omega)] at hH | rw [if_neg (by omega)] at hH)
    rw [sgStep_getD, hH]
    try simp only [sgR_0, sgR_1, sgR_2, sgR_3, reduceCtorEq, if_false, if_true, show i + 1 + 1 = i + 2 by omega, show i + 2 + 1 = i + 3 by omega]
    (try repeat (first | rw [if_pos (by omega)] | rw [if_neg (by omega)]))
    all_goals first | rfl | ((repeat' split) <;> first | rfl | omega)
  unfold SignSaid
  rw [hv]
  clear hv
  go_enter Try.func77, Try.ntmps77
  go_wp2_with (first | (go_at_call 97; (with_reducible refine (in_yes _ _ _ _ _ (by omega)).mono ?_); rintro e w' ⟨rfl, ⟨nd, rfl⟩⟩) | (go_at_call 97; (with_reducible refine (in_no _ _ _ _ _ (by omega)).mono ?_); rintro e w' ⟨rfl, ⟨nd, rfl⟩⟩))
  go_ret
  exact ⟨rfl, by repeat (first | exact Drawn0.refl _ | apply Drawn0.step)⟩
set_option maxHeartbeats 8000000 in
set_option maxRecDepth 100000 in
theorem sign_f42 (s : ByteArray) (i : Int) (w : World) (h0 : 0 ≤ i) (hi : i < s.size) (hs : s.size ≤ 9223372036854775000) (hr : 0 ≤ bt s i) (cb : bt s i = 244) (c1 : (i + 2 < s.size ∧ 128 ≤ bt s (i + 2) ∧ bt s (i + 2) ≤ 191)) (c2 : (i + 3 < s.size ∧ 128 ≤ bt s (i + 3) ∧ bt s (i + 3) ≤ 191)) (c3 : (i + 1 < s.size ∧ 128 ≤ bt s (i + 1) ∧ bt s (i + 1) ≤ 143)) : SignSaid s i w := by
  have hv : (sgStep s i).getD 0 = 4 := by
    have hH := sgH_is (bt s i)
    repeat (first | rw [if_pos (by omega)] at hH | rw [if_neg (by omega)] at hH)
    rw [sgStep_getD, hH]
    try simp only [sgR_0, sgR_1, sgR_2, sgR_3, reduceCtorEq, if_false, if_true, show i + 1 + 1 = i + 2 by omega, show i + 2 + 1 = i + 3 by omega]
    (try repeat (first | rw [if_pos (by omega)] | rw [if_neg (by omega)]))
    all_goals first | rfl | ((repeat' split) <;> first | rfl | omega)
  unfold SignSaid
  rw [hv]
  clear hv
  go_enter Try.func77, Try.ntmps77
  go_wp2_with (first | (go_at_call 97; (with_reducible refine (in_yes _ _ _ _ _ (by omega)).mono ?_); rintro e w' ⟨rfl, ⟨nd, rfl⟩⟩) | (go_at_call 97; (with_reducible refine (in_no _ _ _ _ _ (by omega)).mono ?_); rintro e w' ⟨rfl, ⟨nd, rfl⟩⟩))
  go_ret
  exact ⟨rfl, by repeat (first | exact Drawn0.refl _ | apply Drawn0.step)⟩
set_option maxHeartbeats 8000000 in
set_option maxRecDepth 100000 in
theorem sign_f43 (s : ByteArray) (i : Int) (w : World) (h0 : 0 ≤ i) (hi : i < s.size) (hs : s.size ≤ 9223372036854775000) (hr : 0 ≤ bt s i) (cb : bt s i = 244) (c1 : (i + 2 < s.size ∧ 128 ≤ bt s (i + 2) ∧ bt s (i + 2) ≤ 191)) (c2 : (i + 3 < s.size ∧ 128 ≤ bt s (i + 3) ∧ bt s (i + 3) ≤ 191)) (c3 : (s.size ≤ i + 1 ∨ bt s (i + 1) < 128 ∨ 143 < bt s (i + 1))) : SignSaid s i w := by
  have hv : (sgStep s i).getD 0 = 0 := by
    have hH := sgH_is (bt s i)
    repeat (first | rw [if_pos (by omega)] at hH | rw [if_neg (by omega)] at hH)
    rw [sgStep_getD, hH]
    try simp only [sgR_0, sgR_1, sgR_2, sgR_3, reduceCtorEq, if_false, if_true, show i + 1 + 1 = i + 2 by omega, show i + 2 + 1 = i + 3 by omega]
    (try repeat (first | rw [if_pos (by omega)] | rw [if_neg (by omega)]))
    all_goals first | rfl | ((repeat' split) <;> first | rfl | omega)
  unfold SignSaid
  rw [hv]
  clear hv
  go_enter Try.func77, Try.ntmps77
  go_wp2_with (first | (go_at_call 97; (with_reducible refine (in_yes _ _ _ _ _ (by omega)).mono ?_); rintro e w' ⟨rfl, ⟨nd, rfl⟩⟩) | (go_at_call 97; (with_reducible refine (in_no _ _ _ _ _ (by omega)).mono ?_); rintro e w' ⟨rfl, ⟨nd, rfl⟩⟩))
  go_ret
  exact ⟨rfl, by repeat (first | exact Drawn0.refl _ | apply Drawn0.step)⟩
theorem bonsairef04_sign.calls (a0 : ByteArray) (a1 : Int) (r : Int) (w : World) (h : bonsairef04_sign.f a0 a1 = some r) :
    Calls Try.prog 77 #[.string a0, .int .i64 a1] w fun e w' => e = .returned (.int .i64 r) ∧ Drawn0 w w' := by
  unfold bonsairef04_sign.f at h
  split at h
  · rename_i hc
    obtain ⟨h0, hi, hs⟩ := hc
    cases h
    have hr := (bt_range a0 a1).1
    have q1 := fun lo hi => (show (a1 + 1 < (a0.size : Int) ∧ lo ≤ bt a0 (a1 + 1) ∧ bt a0 (a1 + 1) ≤ hi) ∨ ((a0.size : Int) ≤ a1 + 1 ∨ bt a0 (a1 + 1) < lo ∨ hi < bt a0 (a1 + 1)) by omega)
    have q2 : (a1 + 2 < (a0.size : Int) ∧ 128 ≤ bt a0 (a1 + 2) ∧ bt a0 (a1 + 2) ≤ 191) ∨ ((a0.size : Int) ≤ a1 + 2 ∨ bt a0 (a1 + 2) < 128 ∨ 191 < bt a0 (a1 + 2)) := by omega
    have q3 : (a1 + 3 < (a0.size : Int) ∧ 128 ≤ bt a0 (a1 + 3) ∧ bt a0 (a1 + 3) ≤ 191) ∨ ((a0.size : Int) ≤ a1 + 3 ∨ bt a0 (a1 + 3) < 128 ∨ 191 < bt a0 (a1 + 3)) := by omega
    have cls : bt a0 a1 < 128 ∨ (128 ≤ bt a0 a1 ∧ bt a0 a1 < 194 ∨ 245 ≤ bt a0 a1) ∨ (194 ≤ bt a0 a1 ∧ bt a0 a1 < 224) ∨ bt a0 a1 = 224 ∨ (225 ≤ bt a0 a1 ∧ bt a0 a1 < 237) ∨ bt a0 a1 = 237 ∨ (238 ≤ bt a0 a1 ∧ bt a0 a1 < 240) ∨ bt a0 a1 = 240 ∨ (241 ≤ bt a0 a1 ∧ bt a0 a1 < 244) ∨ bt a0 a1 = 244 := by omega
    show SignSaid a0 a1 w
    rcases cls with c | c | c | c | c | c | c | c | c | c
    · exact sign_asc0 a0 a1 w h0 hi hs hr c
    · rcases q2 with b | b
      · rcases q3 with d | d
        · exact sign_bad2 a0 a1 w h0 hi hs hr c b d
        · exact sign_bad1 a0 a1 w h0 hi hs hr c b d
      · exact sign_bad0 a0 a1 w h0 hi hs hr c b
    · rcases q1 128 191 with e | e
      · exact sign_two0 a0 a1 w h0 hi hs hr c e
      · rcases q2 with b | b
        · rcases q3 with d | d
          · exact sign_two3 a0 a1 w h0 hi hs hr c e b d
          · exact sign_two2 a0 a1 w h0 hi hs hr c e b d
        · exact sign_two1 a0 a1 w h0 hi hs hr c e b
    · rcases q2 with b | b
      · rcases q1 160 191 with e | e
        · exact sign_e01 a0 a1 w h0 hi hs hr c b e
        · rcases q3 with d | d
          · exact sign_e03 a0 a1 w h0 hi hs hr c b e d
          · exact sign_e02 a0 a1 w h0 hi hs hr c b e d
      · exact sign_e00 a0 a1 w h0 hi hs hr c b
    · rcases q2 with b | b
      · rcases q1 128 191 with e | e
        · exact sign_e11 a0 a1 w h0 hi hs hr c b e
        · rcases q3 with d | d
          · exact sign_e13 a0 a1 w h0 hi hs hr c b e d
          · exact sign_e12 a0 a1 w h0 hi hs hr c b e d
      · exact sign_e10 a0 a1 w h0 hi hs hr c b
    · rcases q2 with b | b
      · rcases q1 128 159 with e | e
        · exact sign_ed1 a0 a1 w h0 hi hs hr c b e
        · rcases q3 with d | d
          · exact sign_ed3 a0 a1 w h0 hi hs hr c b e d
          · exact sign_ed2 a0 a1 w h0 hi hs hr c b e d
      · exact sign_ed0 a0 a1 w h0 hi hs hr c b
    · rcases q2 with b | b
      · rcases q1 128 191 with e | e
        · exact sign_ee1 a0 a1 w h0 hi hs hr c b e
        · rcases q3 with d | d
          · exact sign_ee3 a0 a1 w h0 hi hs hr c b e d
          · exact sign_ee2 a0 a1 w h0 hi hs hr c b e d
      · exact sign_ee0 a0 a1 w h0 hi hs hr c b
    · rcases q2 with b | b
      · rcases q3 with d | d
        · rcases q1 144 191 with e | e
          · exact sign_f02 a0 a1 w h0 hi hs hr c b d e
          · exact sign_f03 a0 a1 w h0 hi hs hr c b d e
        · exact sign_f01 a0 a1 w h0 hi hs hr c b d
      · exact sign_f00 a0 a1 w h0 hi hs hr c b
    · rcases q2 with b | b
      · rcases q3 with d | d
        · rcases q1 128 191 with e | e
          · exact sign_f12 a0 a1 w h0 hi hs hr c b d e
          · exact sign_f13 a0 a1 w h0 hi hs hr c b d e
        · exact sign_f11 a0 a1 w h0 hi hs hr c b d
      · exact sign_f10 a0 a1 w h0 hi hs hr c b
    · rcases q2 with b | b
      · rcases q3 with d | d
        · rcases q1 128 143 with e | e
          · exact sign_f42 a0 a1 w h0 hi hs hr c b d e
          · exact sign_f43 a0 a1 w h0 hi hs hr c b d e
        · exact sign_f41 a0 a1 w h0 hi hs hr c b d
      · exact sign_f40 a0 a1 w h0 hi hs hr c b
  · cases h

/-! ### bonsairef04_First: function 26 -/
def bonsairef04_First.l0 : Nat → ByteArray → Int → Option (Int × Bool)
  | 0, _, _ => none
  | k + 1, x0, x4 => if x4 < (x0.size : Int) then ((bonsairef04_sign.f x0 x4).bind fun t164 => (if t164 = 0 then (some (x4, true)) else (bonsairef04_First.l0 k x0 (wrap64 (x4 + t164))))) else (some (0, false))
def bonsairef04_First.f (k : Nat) (a0 : ByteArray) : Option (Int × Bool) := bonsairef04_First.l0 k a0 0
theorem bonsairef04_First.mono_l : ∀ k, (∀ y0 y1, LeO (bonsairef04_First.l0 k y0 y1) (bonsairef04_First.l0 (k + 1) y0 y1))
  | 0 => fun _ _ r h => by simp [bonsairef04_First.l0] at h
  | k + 1 => by
    have ih0 := bonsairef04_First.mono_l k
    · intro y0 y1
      unfold bonsairef04_First.l0
      repeat' first
      | (with_reducible exact ih0 _ _)
      | (with_reducible exact LeO.refl _)
      | (with_reducible exact LeO.none _)
      | (with_reducible refine LeO.ite ?_ ?_)
      | (with_reducible refine LeO.bind ?_ (fun _ => ?_))
      | exact ih0 _ _
      | exact LeO.none _
      | refine LeO.ite ?_ ?_
      | refine LeO.bind ?_ (fun _ => ?_)
theorem bonsairef04_First.mono : ∀ a0 k, LeO (bonsairef04_First.f k a0) (bonsairef04_First.f (k + 1) a0) := by
  intro a0 k
  have ih0 := bonsairef04_First.mono_l k
  unfold bonsairef04_First.f
  repeat' first
      | (with_reducible exact ih0 _ _)
      | (with_reducible exact LeO.refl _)
      | (with_reducible exact LeO.none _)
      | (with_reducible refine LeO.ite ?_ ?_)
      | (with_reducible refine LeO.bind ?_ (fun _ => ?_))
      | exact ih0 _ _
      | exact LeO.none _
      | refine LeO.ite ?_ ?_
      | refine LeO.bind ?_ (fun _ => ?_)
set_option maxHeartbeats 8000000 in
set_option maxRecDepth 100000 in
theorem bonsairef04_First.calls (k : Nat) (a0 : ByteArray) (r1 : Int) (r2 : Bool) (w : World) (h : bonsairef04_First.f k a0 = some (r1, r2)) :
    Calls Try.prog 26 #[.string a0] w fun e w' => e = .returned (.tuple #[.int .i64 r1, .bool r2]) ∧ Drawn0 w w' := by
  have H : (bonsairef04_First.l0 k a0 0) = some (r1, r2) := h
  clear h
  have H' := Aside0.mk H
  clear H
  go_enter Try.func26, Try.ntmps26
  go_wp2
  go_loopg [4] k (fun kq v4 w' => ∃ (x4_1 : Int), v4 = .int .i64 x4_1 ∧ Aside0 (bonsairef04_First.l0 kq a0 x4_1 = some (r1, r2)) ∧ Aside0 (kq ≤ k) ∧ Drawn0 w w')
  case atStart => exact ⟨(0), (by first | rfl | (simp; done) | (simp [*]; done)), H', ⟨Nat.le_refl _⟩, by repeat (first | exact Drawn0.refl _ | apply Drawn0.step)⟩
  case round =>
    clear H'
    obtain ⟨x4_1, rfl, HA, HK1, ⟨m1, rfl⟩⟩ := hrel
    cases gk with
    | zero => exact absurd HA.out (by simp [bonsairef04_First.l0])
    | succ k1 =>
      have H := HA.out
      clear HA
      simp only [bonsairef04_First.l0] at H
      by_cases c2 : x4_1 < (a0.size : Int)
      · rw [if_pos c2] at H
        have c2b0 : decide (x4_1 < (a0.size : Int)) = true := decide_eq_true c2
        clear c2
        replace H := Option.bind_eq_some_iff.mp H
        obtain ⟨t164, A30, H⟩ := H
        replace H : (if t164 = 0 then (some (x4_1, true)) else (bonsairef04_First.l0 k1 a0 (wrap64 (x4_1 + t164)))) = some (r1, r2) := H
        have A3 := Aside0.mk A30
        clear A30
        by_cases c4 : t164 = 0
        · rw [if_pos c4] at H
          have c4b0 : (t164 == 0) = true := beq_iff_eq.mpr c4
          have c4b1 : (t164 != 0) = false := bne_eq_false_iff_eq.mpr c4
          clear c4
          simp only [Option.some.injEq, Prod.mk.injEq] at H
          obtain ⟨rfl, rfl⟩ := H
          go_wp2_with (first | ((with_reducible refine gate_callee (f := 77) rfl ?_); refine goesL_ (some 12) rfl rfl Try.func77 (by kernel_rfl) rfl #[.string a0, .int .i64 x4_1] rfl (by (try simp only [List.map_toArray, List.map_cons, List.map_nil]); first | done | rfl | (simp only [List.length_drop, List.length_take]; rfl)) ?_; (with_reducible refine (bonsairef04_sign.calls a0 x4_1 t164 _ A3.out).mono ?_); rintro e w' ⟨rfl, ⟨nd, rfl⟩⟩; refine ⟨_, rfl, ?_⟩))
          go_ret2
          exact ⟨by first | rfl | (simp; done) | (simp [*]; done), by repeat (first | exact Drawn0.refl _ | apply Drawn0.step)⟩
        · rw [if_neg c4] at H
          have c4b0 : (t164 == 0) = false := beq_eq_false_iff_ne.mpr c4
          have c4b1 : (t164 != 0) = true := bne_iff_ne.mpr c4
          have H' := Aside0.mk H
          clear H
          go_wp2_with (first | ((with_reducible refine gate_callee (f := 77) rfl ?_); refine goesL_ (some 12) rfl rfl Try.func77 (by kernel_rfl) rfl #[.string a0, .int .i64 x4_1] rfl (by (try simp only [List.map_toArray, List.map_cons, List.map_nil]); first | done | rfl | (simp only [List.length_drop, List.length_take]; rfl)) ?_; (with_reducible refine (bonsairef04_sign.calls a0 x4_1 t164 _ A3.out).mono ?_); rintro e w' ⟨rfl, ⟨nd, rfl⟩⟩; refine ⟨_, rfl, ?_⟩))
          go_roundg k1
          case measure => have := HK1.out; omega
          case rel => exact ⟨(wrap64 (x4_1 + t164)), (by first | rfl | (simp; done) | (simp [*]; done)), H', ⟨by have := HK1.out; omega⟩, by repeat (first | exact Drawn0.refl _ | apply Drawn0.step)⟩
      · rw [if_neg c2] at H
        have c2b0 : decide (x4_1 < (a0.size : Int)) = false := decide_eq_false c2
        clear c2
        simp only [Option.some.injEq, Prod.mk.injEq] at H
        obtain ⟨rfl, rfl⟩ := H
        go_wp2
        go_ret2
        exact ⟨by first | rfl | (simp; done) | (simp [*]; done), by repeat (first | exact Drawn0.refl _ | apply Drawn0.step)⟩

/-! ### bonsairef04_Valid: function 30 -/
def bonsairef04_Valid.f (k : Nat) (a0 : ByteArray) : Option (Bool) := (bonsairef04_First.f k a0).bind fun bt165 => (some (!bt165.2))
theorem bonsairef04_Valid.mono : ∀ a0 k, LeO (bonsairef04_Valid.f k a0) (bonsairef04_Valid.f (k + 1) a0) := by
  intro a0 k
  unfold bonsairef04_Valid.f
  repeat' first
      | (with_reducible exact bonsairef04_First.mono _ _)
      | (with_reducible exact LeO.refl _)
      | (with_reducible exact LeO.none _)
      | (with_reducible refine LeO.ite ?_ ?_)
      | (with_reducible refine LeO.bind ?_ (fun _ => ?_))
      | exact bonsairef04_First.mono _ _
      | exact LeO.none _
      | refine LeO.ite ?_ ?_
      | refine LeO.bind ?_ (fun _ => ?_)
set_option maxHeartbeats 8000000 in
set_option maxRecDepth 100000 in
theorem bonsairef04_Valid.calls (k : Nat) (a0 : ByteArray) (r : Bool) (w : World) (h : bonsairef04_Valid.f k a0 = some r) :
    Calls Try.prog 30 #[.string a0] w fun e w' => e = .returned (.bool r) ∧ Drawn0 w w' := by
  have H : ((bonsairef04_First.f k a0).bind fun bt165 => (some (!bt165.2))) = some r := h
  clear h
  replace H := Option.bind_eq_some_iff.mp H
  obtain ⟨⟨t165, t166⟩, A20, H⟩ := H
  replace H : (some (!t166)) = some r := H
  have A2 := Aside0.mk A20
  clear A20
  obtain rfl := Option.some.inj H
  go_enter Try.func30, Try.ntmps30
  go_wp2_with (first | ((with_reducible refine gate_callee (f := 26) rfl ?_); refine goesL_ (some 7) rfl rfl Try.func26 (by kernel_rfl) rfl #[.string a0] rfl (by (try simp only [List.map_toArray, List.map_cons, List.map_nil]); first | done | rfl | (simp only [List.length_drop, List.length_take]; rfl)) ?_; (with_reducible refine (bonsairef04_First.calls k a0 t165 t166 _ A2.out).mono ?_); rintro e w' ⟨rfl, ⟨nd, rfl⟩⟩; refine ⟨_, rfl, ?_⟩))
  go_ret
  exact ⟨by first | rfl | (simp; done) | (simp [*]; done), by repeat (first | exact Drawn0.refl _ | apply Drawn0.step)⟩

end Go.Proofs.Ytbgjoiccehiglaa.Print
