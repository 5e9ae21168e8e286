/- Part 2 of what DictReads stands on: merged by a program of this session out of its texts. -/
import Derived.Test.YtbgjoiccehiglaaCDictReads1
section
namespace Go.Proofs.Ytbgjoiccehiglaa.Print
open Go.RowKit Go.Proofs.YtbgjoiccehiglaaW.PrintWords Go.Proofs.YtbgjoiccehiglaaW.PrintLast Go.Proofs.YtbgjoiccehiglaaW.PrintMore
attribute [local go_sem] max2_int min2_int max_two min_two max_three min_three max_four min_four
set_option linter.unusedVariables false
set_option linter.unusedSimpArgs false
theorem in_val (s : ByteArray) (i lo hi : Int) (h : 0 ≤ i) : bonsairef04_in.f s i lo hi = some (decide (i < s.size ∧ lo ≤ bt s i ∧ bt s i ≤ hi)) := by
  have hr := bt_range s i
  have hw : wrap64 (bt s i) = bt s i := by unfold wrap64; omega
  unfold bonsairef04_in.f
  rw [hw]
  by_cases h1 : i < (s.size : Int)
  · rw [if_pos h1, if_pos h]
    by_cases h2 : bt s i ≥ lo
    · rw [if_pos h2]; congr 1; simp only [decide_eq_decide]; omega
    · rw [if_neg h2]; congr 1; symm; simp only [decide_eq_false_iff_not]; omega
  · rw [if_neg h1]; congr 1; symm; simp only [decide_eq_false_iff_not]; omega
theorem in_yes (s : ByteArray) (i lo hi : Int) (w : World) (h : 0 ≤ i ∧ i < s.size ∧ lo ≤ bt s i ∧ bt s i ≤ hi) :
    Calls Try.prog 97 #[.string s, .int .i64 i, .int .i64 lo, .int .i64 hi] w fun e w' => e = .returned (.bool true) ∧ ∃ n, w' = w.drewN n :=
  (bonsairef04_in.calls s i lo hi true w (by rw [in_val s i lo hi h.1]; simp; omega)).mono fun _ _ h => ⟨h.1, h.2.out⟩
theorem in_no (s : ByteArray) (i lo hi : Int) (w : World) (h : 0 ≤ i ∧ (s.size ≤ i ∨ bt s i < lo ∨ hi < bt s i)) :
    Calls Try.prog 97 #[.string s, .int .i64 i, .int .i64 lo, .int .i64 hi] w fun e w' => e = .returned (.bool false) ∧ ∃ n, w' = w.drewN n :=
  (bonsairef04_in.calls s i lo hi false w (by rw [in_val s i lo hi h.1]; simp; omega)).mono fun _ _ h => ⟨h.1, h.2.out⟩
theorem sgStep_getD (s : ByteArray) (i : Int) : (sgStep s i).getD 0 =
    if (sgH (bt s i)).2.2.2 = false then 0 else if (s.size : Int) - i ≤ (sgH (bt s i)).1 then 0
    else if sgR s (sgH (bt s i)).1.toNat (i + 1) (sgH (bt s i)).2.1 (sgH (bt s i)).2.2.1 = true then 1 + (sgH (bt s i)).1 else 0 := by
  unfold sgStep
  repeat' split
  all_goals rfl
theorem sgH_is (b : Int) : sgH b = if b < 128 then (0, 128, 191, true) else (if b < 194 then (0, 128, 191, false) else (if b < 224 then (1, 128, 191, true) else (if b < 240 then (if b = 224 then (2, 160, 191, true) else (if b = 237 then (2, 128, 159, true) else (2, 128, 191, true))) else (if b < 245 then (if b = 240 then (3, 144, 191, true) else (if b = 244 then (3, 128, 143, true) else (3, 128, 191, true))) else (0, 128, 191, false))))) := rfl
theorem sgR_0 (s : ByteArray) (i lo hi : Int) : (sgR s (0 : Int).toNat i lo hi = true) = True := by simp [sgR]
theorem sgR_1 (s : ByteArray) (i lo hi : Int) : (sgR s (1 : Int).toNat i lo hi = true) = (lo ≤ bt s i ∧ bt s i ≤ hi) := by
  show (sgR s 1 i lo hi = true) = _
  simp only [sgR, eq_iff_iff]
  (repeat' split) <;> simp <;> omega
theorem sgR_2 (s : ByteArray) (i lo hi : Int) : (sgR s (2 : Int).toNat i lo hi = true) = (lo ≤ bt s i ∧ bt s i ≤ hi ∧ 128 ≤ bt s (i + 1) ∧ bt s (i + 1) ≤ 191) := by
  show (sgR s 2 i lo hi = true) = _
  simp only [sgR, eq_iff_iff]
  (repeat' split) <;> simp <;> omega
theorem sgR_3 (s : ByteArray) (i lo hi : Int) : (sgR s (3 : Int).toNat i lo hi = true) = (lo ≤ bt s i ∧ bt s i ≤ hi ∧ 128 ≤ bt s (i + 1) ∧ bt s (i + 1) ≤ 191 ∧ 128 ≤ bt s (i + 1 + 1) ∧ bt s (i + 1 + 1) ≤ 191) := by
  show (sgR s 3 i lo hi = true) = _
  simp only [sgR, eq_iff_iff]
  (repeat' split) <;> simp <;> omega
def bonsairef04_sign.f (s : ByteArray) (i : Int) : Option Int := if 0 ≤ i ∧ i < s.size ∧ s.size ≤ 9223372036854775000 then some ((sgStep s i).getD 0) else none
def SignSaid (s : ByteArray) (i : Int) (w : World) : Prop := Calls Try.prog 77 #[.string s, .int .i64 i] w fun e w' => e = .returned (.int .i64 ((sgStep s i).getD 0)) ∧ Drawn0 w w'
set_option maxHeartbeats 8000000 in
set_option maxRecDepth 100000 in
theorem sign_asc0 (s : ByteArray) (i : Int) (w : World) (h0 : 0 ≤ i) (hi : i < s.size) (hs : s.size ≤ 9223372036854775000) (hr : 0 ≤ bt s i) (cb : bt s i < 128)  : SignSaid s i w := by
  have hv : (sgStep s i).getD 0 = 1 := by
    have hH := sgH_is (bt s i)
    repeat (first | rw [if_pos (by omega)] at hH | rw [if_neg (by omega)] at hH)
    rw [sgStep_getD, hH]
    try simp only [sgR_0, sgR_1, sgR_2, sgR_3, reduceCtorEq, if_false, if_true, show i + 1 + 1 = i + 2 by omega, show i + 2 + 1 = i + 3 by omega]
    (try repeat (first | rw [if_pos (by omega)] | rw [if_neg (by omega)]))
    all_goals first | rfl | ((repeat' split) <;> first | rfl | omega)
  unfold SignSaid
  rw [hv]
  clear hv
  go_enter Try.func77, Try.ntmps77
  go_wp2_with (first | (go_at_call 97; (with_reducible refine (in_yes _ _ _ _ _ (by omega)).mono ?_); rintro e w' ⟨rfl, ⟨nd, rfl⟩⟩) | (go_at_call 97; (with_reducible refine (in_no _ _ _ _ _ (by omega)).mono ?_); rintro e w' ⟨rfl, ⟨nd, rfl⟩⟩))
  go_ret
  exact ⟨rfl, by repeat (first | exact Drawn0.refl _ | apply Drawn0.step)⟩
set_option maxHeartbeats 8000000 in
set_option maxRecDepth 100000 in
theorem sign_bad0 (s : ByteArray) (i : Int) (w : World) (h0 : 0 ≤ i) (hi : i < s.size) (hs : s.size ≤ 9223372036854775000) (hr : 0 ≤ bt s i) (cb : (128 ≤ bt s i ∧ bt s i < 194 ∨ 245 ≤ bt s i)) (c1 : (s.size ≤ i + 2 ∨ bt s (i + 2) < 128 ∨ 191 < bt s (i + 2))) : SignSaid s i w := by
  have hv : (sgStep s i).getD 0 = 0 := by
    rcases cb with cb | cb
    all_goals
      have hH := sgH_is (bt s i)
      repeat (first | rw [if_pos (by omega)] at hH | rw [if_neg (by omega)] at hH)
      rw [sgStep_getD, hH]
      try simp only [sgR_0, sgR_1, sgR_2, sgR_3, reduceCtorEq, if_false, if_true, show i + 1 + 1 = i + 2 by omega, show i + 2 + 1 = i + 3 by omega]
      (try repeat (first | rw [if_pos (by omega)] | rw [if_neg (by omega)]))
      all_goals first | rfl | ((repeat' split) <;> first | rfl | omega)
  unfold SignSaid
  rw [hv]
  clear hv
  go_enter Try.func77, Try.ntmps77
  go_wp2_with (first | (go_at_call 97; (with_reducible refine (in_yes _ _ _ _ _ (by omega)).mono ?_); rintro e w' ⟨rfl, ⟨nd, rfl⟩⟩) | (go_at_call 97; (with_reducible refine (in_no _ _ _ _ _ (by omega)).mono ?_); rintro e w' ⟨rfl, ⟨nd, rfl⟩⟩))
  go_ret
  exact ⟨rfl, by repeat (first | exact Drawn0.refl _ | apply Drawn0.step)⟩
set_option maxHeartbeats 8000000 in
set_option maxRecDepth 100000 in
theorem sign_bad1 (s : ByteArray) (i : Int) (w : World) (h0 : 0 ≤ i) (hi : i < s.size) (hs : s.size ≤ 9223372036854775000) (hr : 0 ≤ bt s i) (cb : (128 ≤ bt s i ∧ bt s i < 194 ∨ 245 ≤ bt s i)) (c1 : (i + 2 < s.size ∧ 128 ≤ bt s (i + 2) ∧ bt s (i + 2) ≤ 191)) (c2 : (s.size ≤ i + 3 ∨ bt s (i + 3) < 128 ∨ 191 < bt s (i + 3))) : SignSaid s i w := by
  have hv : (sgStep s i).getD 0 = 0 := by
    rcases cb with cb | cb
    all_goals
      have hH := sgH_is (bt s i)
      repeat (first | rw [if_pos (by omega)] at hH | rw [if_neg (by omega)] at hH)
      rw [sgStep_getD, hH]
      try simp only [sgR_0, sgR_1, sgR_2, sgR_3, reduceCtorEq, if_false, if_true, show i + 1 + 1 = i + 2 by omega, show i + 2 + 1 = i + 3 by omega]
      (try repeat (first | rw [if_pos (by omega)] | rw [if_neg (by omega)]))
      all_goals first | rfl | ((repeat' split) <;> first | rfl | omega)
  unfold SignSaid
  rw [hv]
  clear hv
  go_enter Try.func77, Try.ntmps77
  go_wp2_with (first | (go_at_call 97; (with_reducible refine (in_yes _ _ _ _ _ (by omega)).mono ?_); rintro e w' ⟨rfl, ⟨nd, rfl⟩⟩) | (go_at_call 97; (with_reducible refine (in_no _ _ _ _ _ (by omega)).mono ?_); rintro e w' ⟨rfl, ⟨nd, rfl⟩⟩))
  go_ret
  exact ⟨rfl, by repeat (first | exact Drawn0.refl _ | apply Drawn0.step)⟩
set_option maxHeartbeats 8000000 in
set_option maxRecDepth 100000 in
theorem sign_bad2 (s : ByteArray) (i : Int) (w : World) (h0 : 0 ≤ i) (hi : i < s.size) (hs : s.size ≤ 9223372036854775000) (hr : 0 ≤ bt s i) (cb : (128 ≤ bt s i ∧ bt s i < 194 ∨ 245 ≤ bt s i)) (c1 : (i + 2 < s.size ∧ 128 ≤ bt s (i + 2) ∧ bt s (i + 2) ≤ 191)) (c2 : (i + 3 < s.size ∧ 128 ≤ bt s (i + 3) ∧ bt s (i + 3) ≤ 191)) : SignSaid s i w := by
  have hv : (sgStep s i).getD 0 = 0 := by
    rcases cb with cb | cb
    all_goals
      have hH := sgH_is (bt s i)
      repeat (first | rw [if_pos (by omega)] at hH | rw [if_neg (by omega)] at hH)
      rw [sgStep_getD, hH]
      try simp only [sgR_0, sgR_1, sgR_2, sgR_3, reduceCtorEq, if_false, if_true, show i + 1 + 1 = i + 2 by omega, show i + 2 + 1 = i + 3 by omega]
      (try repeat (first | rw [if_pos (by omega)] | rw [if_neg (by omega)]))
      all_goals first | rfl | ((repeat' split) <;> first | rfl | omega)
  unfold SignSaid
  rw [hv]
  clear hv
  go_enter Try.func77, Try.ntmps77
  go_wp2_with (first | (go_at_call 97; (with_reducible refine (in_yes _ _ _ _ _ (by omega)).mono ?_); rintro e w' ⟨rfl, ⟨nd, rfl⟩⟩) | (go_at_call 97; (with_reducible refine (in_no _ _ _ _ _ (by omega)).mono ?_); rintro e w' ⟨rfl, ⟨nd, rfl⟩⟩))
  go_ret
  exact ⟨rfl, by repeat (first | exact Drawn0.refl _ | apply Drawn0.step)⟩
set_option maxHeartbeats 8000000 in
set_option maxRecDepth 100000 in
theorem sign_two0 (s : ByteArray) (i : Int) (w : World) (h0 : 0 ≤ i) (hi : i < s.size) (hs : s.size ≤ 9223372036854775000) (hr : 0 ≤ bt s i) (cb : 194 ≤ bt s i ∧ bt s i < 224) (c1 : (i + 1 < s.size ∧ 128 ≤ bt s (i + 1) ∧ bt s (i + 1) ≤ 191)) : SignSaid s i w := by
  have hv : (sgStep s i).getD 0 = 2 := by
    have hH := sgH_is (bt s i)
    repeat (first | rw [if_pos (by omega)] at hH | rw [if_neg (by omega)] at hH)
    rw [sgStep_getD, hH]
    try simp only [sgR_0, sgR_1, sgR_2, sgR_3, reduceCtorEq, if_false, if_true, show i + 1 + 1 = i + 2 by omega, show i + 2 + 1 = i + 3 by omega]
    (try repeat (first | rw [if_pos (by omega)] | rw [if_neg (by omega)]))
    all_goals first | rfl | ((repeat' split) <;> first | rfl | omega)
  unfold SignSaid
  rw [hv]
  clear hv
  go_enter Try.func77, Try.ntmps77
  go_wp2_with (first | (go_at_call 97; (with_reducible refine (in_yes _ _ _ _ _ (by omega)).mono ?_); rintro e w' ⟨rfl, ⟨nd, rfl⟩⟩) | (go_at_call 97; (with_reducible refine (in_no _ _ _ _ _ (by omega)).mono ?_); rintro e w' ⟨rfl, ⟨nd, rfl⟩⟩))
  go_ret
  exact ⟨rfl, by repeat (first | exact Drawn0.refl _ | apply Drawn0.step)⟩
set_option maxHeartbeats 8000000 in
set_option maxRecDepth 100000 in
theorem sign_two1 (s : ByteArray) (i : Int) (w : World) (h0 : 0 ≤ i) (hi : i < s.size) (hs : s.size ≤ 9223372036854775000) (hr : 0 ≤ bt s i) (cb : 194 ≤ bt s i ∧ bt s i < 224) (c1 : (s.size ≤ i + 1 ∨ bt s (i + 1) < 128 ∨ 191 < bt s (i + 1))) (c2 : (s.size ≤ i + 2 ∨ bt s (i + 2) < 128 ∨ 191 < bt s (i + 2))) : SignSaid s i w := by
  have hv : (sgStep s i).getD 0 = 0 := by
    have hH := sgH_is (bt s i)
    repeat (first | rw [if_pos (by omega)] at hH | rw [if_neg (by omega)] at hH)
    rw [sgStep_getD, hH]
    try simp only [sgR_0, sgR_1, sgR_2, sgR_3, reduceCtorEq, if_false, if_true, show i + 1 + 1 = i + 2 by omega, show i + 2 + 1 = i + 3 by omega]
    (try repeat (first | rw [if_pos (by omega)] | rw [if_neg (by omega)]))
    all_goals first | rfl | ((repeat' split) <;> first | rfl | omega)
  unfold SignSaid
  rw [hv]
  clear hv
  go_enter Try.func77, Try.ntmps77
  go_wp2_with (first | (go_at_call 97; (with_reducible refine (in_yes _ _ _ _ _ (by omega)).mono ?_); rintro e w' ⟨rfl, ⟨nd, rfl⟩⟩) | (go_at_call 97; (with_reducible refine (in_no _ _ _ _ _ (by omega)).mono ?_); rintro e w' ⟨rfl, ⟨nd, rfl⟩⟩))
  go_ret
  exact ⟨rfl, by repeat (first | exact Drawn0.refl _ | apply Drawn0.step)⟩
set_option maxHeartbeats 8000000 in
set_option maxRecDepth 100000 in
theorem sign_two2 (s : ByteArray) (i : Int) (w : World) (h0 : 0 ≤ i) (hi : i < s.size) (hs : s.size ≤ 9223372036854775000) (hr : 0 ≤ bt s i) (cb : 194 ≤ bt s i ∧ bt s i < 224) (c1 : (s.size ≤ i + 1 ∨ bt s (i + 1) < 128 ∨ 191 < bt s (i + 1))) (c2 : (i + 2 < s.size ∧ 128 ≤ bt s (i + 2) ∧ bt s (i + 2) ≤ 191)) (c3 : (s.size ≤ i + 3 ∨ bt s (i + 3) < 128 ∨ 191 < bt s (i + 3))) : SignSaid s i w := by
  have hv : (sgStep s i).getD 0 = 0 := by
    have hH := sgH_is (bt s i)
    repeat (first | rw [if_pos (by omega)] at hH | rw [if_neg (by omega)] at hH)
    rw [sgStep_getD, hH]
    try simp only [sgR_0, sgR_1, sgR_2, sgR_3, reduceCtorEq, if_false, if_true, show i + 1 + 1 = i + 2 by omega, show i + 2 + 1 = i + 3 by omega]
    (try repeat (first | rw [if_pos (by omega)] | rw [if_neg (by omega)]))
    all_goals first | rfl | ((repeat' split) <;> first | rfl | omega)
  unfold SignSaid
  rw [hv]
  clear hv
  go_enter Try.func77, Try.ntmps77
  go_wp2_with (first | (go_at_call 97; (with_reducible refine (in_yes _ _ _ _ _ (by omega)).mono ?_); rintro e w' ⟨rfl, ⟨nd, rfl⟩⟩) | (go_at_call 97; (with_reducible refine (in_no _ _ _ _ _ (by omega)).mono ?_); rintro e w' ⟨rfl, ⟨nd, rfl⟩⟩))
  go_ret
  exact ⟨rfl, by repeat (first | exact Drawn0.refl _ | apply Drawn0.step)⟩
set_option maxHeartbeats 8000000 in
set_option maxRecDepth 100000 in
theorem sign_two3 (s : ByteArray) (i : Int) (w : World) (h0 : 0 ≤ i) (hi : i < s.size) (hs : s.size ≤ 9223372036854775000) (hr : 0 ≤ bt s i) (cb : 194 ≤ bt s i ∧ bt s i < 224) (c1 : (s.size ≤ i + 1 ∨ bt s (i + 1) < 128 ∨ 191 < bt s (i + 1))) (c2 : (i + 2 < s.size ∧ 128 ≤ bt s (i + 2) ∧ bt s (i + 2) ≤ 191)) (c3 : (i + 3 < s.size ∧ 128 ≤ bt s (i + 3) ∧ bt s (i + 3) ≤ 191)) : SignSaid s i w := by
  have hv : (sgStep s i).getD 0 = 0 := by
    have hH := sgH_is (bt s i)
    repeat (first | rw [if_pos (by omega)] at hH | rw [if_neg (by omega)] at hH)
    rw [sgStep_getD, hH]
    try simp only [sgR_0, sgR_1, sgR_2, sgR_3, reduceCtorEq, if_false, if_true, show i + 1 + 1 = i + 2 by omega, show i + 2 + 1 = i + 3 by omega]
    (try repeat (first | rw [if_pos (by omega)] | rw [if_neg (by omega)]))
    all_goals first | rfl | ((repeat' split) <;> first | rfl | omega)
  unfold SignSaid
  rw [hv]
  clear hv
  go_enter Try.func77, Try.ntmps77
  go_wp2_with (first | (go_at_call 97; (with_reducible refine (in_yes _ _ _ _ _ (by omega)).mono ?_); rintro e w' ⟨rfl, ⟨nd, rfl⟩⟩) | (go_at_call 97; (with_reducible refine (in_no _ _ _ _ _ (by omega)).mono ?_); rintro e w' ⟨rfl, ⟨nd, rfl⟩⟩))
  go_ret
  exact ⟨rfl, by repeat (first | exact Drawn0.refl _ | apply Drawn0.step)⟩
set_option maxHeartbeats 8000000 in
set_option maxRecDepth 100000 in
theorem sign_e00 (s : ByteArray) (i : Int) (w : World) (h0 : 0 ≤ i) (hi : i < s.size) (hs : s.size ≤ 9223372036854775000) (hr : 0 ≤ bt s i) (cb : bt s i = 224) (c1 : (s.size ≤ i + 2 ∨ bt s (i + 2) < 128 ∨ 191 < bt s (i + 2))) : SignSaid s i w := by
  have hv : (sgStep s i).getD 0 = 0 := by
    have hH := sgH_is (bt s i)
    repeat (first | rw [if_pos (by omega)] at hH | rw [if_neg (by omega)] at hH)
    rw [sgStep_getD, hH]
    try simp only [sgR_0, sgR_1, sgR_2, sgR_3, reduceCtorEq, if_false, if_true, show i + 1 + 1 = i + 2 by omega, show i + 2 + 1 = i + 3 by omega]
    (try repeat (first | rw [if_pos (by omega)] | rw [if_neg (by omega)]))
    all_goals first | rfl | ((repeat' split) <;> first | rfl | omega)
  unfold SignSaid
  rw [hv]
  clear hv
  go_enter Try.func77, Try.ntmps77
  go_wp2_with (first | (go_at_call 97; (with_reducible refine (in_yes _ _ _ _ _ (by omega)).mono ?_); rintro e w' ⟨rfl, ⟨nd, rfl⟩⟩) | (go_at_call 97; (with_reducible refine (in_no _ _ _ _ _ (by omega)).mono ?_); rintro e w' ⟨rfl, ⟨nd, rfl⟩⟩))
  go_ret
  exact ⟨rfl, by repeat (first | exact Drawn0.refl _ | apply Drawn0.step)⟩
set_option maxHeartbeats 8000000 in
set_option maxRecDepth 100000 in
theorem sign_e01 (s : ByteArray) (i : Int) (w : World) (h0 : 0 ≤ i) (hi : i < s.size) (hs : s.size ≤ 9223372036854775000) (hr : 0 ≤ bt s i) (cb : bt s i = 224) (c1 : (i + 2 < s.size ∧ 128 ≤ bt s (i + 2) ∧ bt s (i + 2) ≤ 191)) (c2 : (i + 1 < s.size ∧ 160 ≤ bt s (i + 1) ∧ bt s (i + 1) ≤ 191)) : SignSaid s i w := by
  have hv : (sgStep s i).getD 0 = 3 := by
    have hH := sgH_is (bt s i)
    repeat (first | rw [if_pos (by omega)] at hH | rw [if_neg (by omega)] at hH)
    rw [sgStep_getD, hH]
    try simp only [sgR_0, sgR_1, sgR_2, sgR_3, reduceCtorEq, if_false, if_true, show i + 1 + 1 = i + 2 by omega, show i + 2 + 1 = i + 3 by omega]
    (try repeat (first | rw [if_pos (by omega)] | rw [if_neg (by omega)]))
    all_goals first | rfl | ((repeat' split) <;> first | rfl | omega)
  unfold SignSaid
  rw [hv]
  clear hv
  go_enter Try.func77, Try.ntmps77
  go_wp2_with (first | (go_at_call 97; (with_reducible refine (in_yes _ _ _ _ _ (by omega)).mono ?_); rintro e w' ⟨rfl, ⟨nd, rfl⟩⟩) | (go_at_call 97; (with_reducible refine (in_no _ _ _ _ _ (by omega)).mono ?_); rintro e w' ⟨rfl, ⟨nd, rfl⟩⟩))
  go_ret
  exact ⟨rfl, by repeat (first | exact Drawn0.refl _ | apply Drawn0.step)⟩
set_option maxHeartbeats 8000000 in
set_option maxRecDepth 100000 in
theorem sign_e02 (s : ByteArray) (i : Int) (w : World) (h0 : 0 ≤ i) (hi : i < s.size) (hs : s.size ≤ 9223372036854775000) (hr : 0 ≤ bt s i) (cb : bt s i = 224) (c1 : (i + 2 < s.size ∧ 128 ≤ bt s (i + 2) ∧ bt s (i + 2) ≤ 191)) (c2 : (s.size ≤ i + 1 ∨ bt s (i + 1) < 160 ∨ 191 < bt s (i + 1))) (c3 : (s.size ≤ i + 3 ∨ bt s (i + 3) < 128 ∨ 191 < bt s (i + 3))) : SignSaid s i w := by
  have hv : (sgStep s i).getD 0 = 0 := by
    have hH := sgH_is (bt s i)
    repeat (first | rw [if_pos (by omega)] at hH | rw [if_neg (by omega)] at hH)
    rw [sgStep_getD, hH]
    try simp only [sgR_0, sgR_1, sgR_2, sgR_3, reduceCtorEq, if_false, if_true, show i + 1 + 1 = i + 2 by omega, show i + 2 + 1 = i + 3 by omega]
    (try repeat (first | rw [if_pos (by omega)] | rw [if_neg (by omega)]))
    all_goals first | rfl | ((repeat' split) <;> first | rfl | omega)
  unfold SignSaid
  rw [hv]
  clear hv
  go_enter Try.func77, Try.ntmps77
  go_wp2_with (first | (go_at_call 97; (with_reducible refine (in_yes _ _ _ _ _ (by omega)).mono ?_); rintro e w' ⟨rfl, ⟨nd, rfl⟩⟩) | (go_at_call 97; (with_reducible refine (in_no _ _ _ _ _ (by omega)).mono ?_); rintro e w' ⟨rfl, ⟨nd, rfl⟩⟩))
  go_ret
  exact ⟨rfl, by repeat (first | exact Drawn0.refl _ | apply Drawn0.step)⟩
set_option maxHeartbeats 8000000 in
set_option maxRecDepth 100000 in
theorem sign_e03 (s : ByteArray) (i : Int) (w : World) (h0 : 0 ≤ i) (hi : i < s.size) (hs : s.size ≤ 9223372036854775000) (hr : 0 ≤ bt s i) (cb : bt s i = 224) (c1 : (i + 2 < s.size ∧ 128 ≤ bt s (i + 2) ∧ bt s (i + 2) ≤ 191)) (c2 : (s.size ≤ i + 1 ∨ bt s (i + 1) < 160 ∨ 191 < bt s (i + 1))) (c3 : (i + 3 < s.size ∧ 128 ≤ bt s (i + 3) ∧ bt s (i + 3) ≤ 191)) : SignSaid s i w := by
  have hv : (sgStep s i).getD 0 = 0 := by
    have hH := sgH_is (bt s i)
    repeat (first | rw [if_pos (by omega)] at hH | rw [if_neg (by omega)] at hH)
    rw [sgStep_getD, hH]
    try simp only [sgR_0, sgR_1, sgR_2, sgR_3, reduceCtorEq, if_false, if_true, show i + 1 + 1 = i + 2 by omega, show i + 2 + 1 = i + 3 by omega]
    (try repeat (first | rw [if_pos (by omega)] | rw [if_neg (by omega)]))
    all_goals first | rfl | ((repeat' split) <;> first | rfl | omega)
  unfold SignSaid
  rw [hv]
  clear hv
  go_enter Try.func77, Try.ntmps77
  go_wp2_with (first | (go_at_call 97; (with_reducible refine (in_yes _ _ _ _ _ (by omega)).mono ?_); rintro e w' ⟨rfl, ⟨nd, rfl⟩⟩) | (go_at_call 97; (with_reducible refine (in_no _ _ _ _ _ (by omega)).mono ?_); rintro e w' ⟨rfl, ⟨nd, rfl⟩⟩))
  go_ret
  exact ⟨rfl, by repeat (first | exact Drawn0.refl _ | apply Drawn0.step)⟩
set_option maxHeartbeats 8000000 in
set_option maxRecDepth 100000 in
theorem sign_e10 (s : ByteArray) (i : Int) (w : World) (h0 : 0 ≤ i) (hi : i < s.size) (hs : s.size ≤ 9223372036854775000) (hr : 0 ≤ bt s i) (cb : 225 ≤ bt s i ∧ bt s i < 237) (c1 : (s.size ≤ i + 2 ∨ bt s (i + 2) < 128 ∨ 191 < bt s (i + 2))) : SignSaid s i w := by
  have hv : (sgStep s i).getD 0 = 0 := by
    have hH := sgH_is (bt s i)
    repeat (first | rw [if_pos (by omega)] at hH | rw [if_neg (by omega)] at hH)
    rw [sgStep_getD, hH]
    try simp only [sgR_0, sgR_1, sgR_2, sgR_3, reduceCtorEq, if_false, if_true, show i + 1 + 1 = i + 2 by omega, show i + 2 + 1 = i + 3 by omega]
    (try repeat (first | rw [if_pos (by omega)] | rw [if_neg (by omega)]))
    all_goals first | rfl | ((repeat' split) <;> first | rfl | omega)
  unfold SignSaid
  rw [hv]
  clear hv
  go_enter Try.func77, Try.ntmps77
  go_wp2_with (first | (go_at_call 97; (with_reducible refine (in_yes _ _ _ _ _ (by omega)).mono ?_); rintro e w' ⟨rfl, ⟨nd, rfl⟩⟩) | (go_at_call 97; (with_reducible refine (in_no _ _ _ _ _ (by omega)).mono ?_); rintro e w' ⟨rfl, ⟨nd, rfl⟩⟩))
  go_ret
  exact ⟨rfl, by repeat (first | exact Drawn0.refl _ | apply Drawn0.step)⟩
set_option maxHeartbeats 8000000 in
set_option maxRecDepth 100000 in
theorem sign_e11 (s : ByteArray) (i : Int) (w : World) (h0 : 0 ≤ i) (hi : i < s.size) (hs : s.size ≤ 9223372036854775000) (hr : 0 ≤ bt s i) (cb : 225 ≤ bt s i ∧ bt s i < 237) (c1 : (i + 2 < s.size ∧ 128 ≤ bt s (i + 2) ∧ bt s (i + 2) ≤ 191)) (c2 : (i + 1 < s.size ∧ 128 ≤ bt s (i + 1) ∧ bt s (i + 1) ≤ 191)) : SignSaid s i w := by
  have hv : (sgStep s i).getD 0 = 3 := by
    have hH := sgH_is (bt s i)
    repeat (first | rw [if_pos (by omega)] at hH | rw [if_neg (by omega)] at hH)
    rw [sgStep_getD, hH]
    try simp only [sgR_0, sgR_1, sgR_2, sgR_3, reduceCtorEq, if_false, if_true, show i + 1 + 1 = i + 2 by omega, show i + 2 + 1 = i + 3 by omega]
    (try repeat (first | rw [if_pos (by omega)] | rw [if_neg (by omega)]))
    all_goals first | rfl | ((repeat' split) <;> first | rfl | omega)
  unfold SignSaid
  rw [hv]
  clear hv
  go_enter Try.func77, Try.ntmps77
  go_wp2_with (first | (go_at_call 97; (with_reducible refine (in_yes _ _ _ _ _ (by omega)).mono ?_); rintro e w' ⟨rfl, ⟨nd, rfl⟩⟩) | (go_at_call 97; (with_reducible refine (in_no _ _ _ _ _ (by omega)).mono ?_); rintro e w' ⟨rfl, ⟨nd, rfl⟩⟩))
  go_ret
  exact ⟨rfl, by repeat (first | exact Drawn0.refl _ | apply Drawn0.step)⟩
set_option maxHeartbeats 8000000 in
set_option maxRecDepth 100000 in
theorem sign_e12 (s : ByteArray) (i : Int) (w : World) (h0 : 0 ≤ i) (hi : i < s.size) (hs : s.size ≤ 9223372036854775000) (hr : 0 ≤ bt s i) (cb : 225 ≤ bt s i ∧ bt s i < 237) (c1 : (i + 2 < s.size ∧ 128 ≤ bt s (i + 2) ∧ bt s (i + 2) ≤ 191)) (c2 : (s.size ≤ i + 1 ∨ bt s (i + 1) < 128 ∨ 191 < bt s (i + 1))) (c3 : (s.size ≤ i + 3 ∨ bt s (i + 3) < 128 ∨ 191 < bt s (i + 3))) : SignSaid s i w := by
  have hv : (sgStep s i).getD 0 = 0 := by
    have hH := sgH_is (bt s i)
    repeat (first | rw [if_pos (by omega)] at hH | rw [if_neg (by omega)] at hH)
    rw [sgStep_getD, hH]
    try simp only [sgR_0, sgR_1, sgR_2, sgR_3, reduceCtorEq, if_false, if_true, show i + 1 + 1 = i + 2 by omega, show i + 2 + 1 = i + 3 by omega]
    (try repeat (first | rw [if_pos (by omega)] | rw [if_neg (by omega)]))
    all_goals first | rfl | ((repeat' split) <;> first | rfl | omega)
  unfold SignSaid
  rw [hv]
  clear hv
  go_enter Try.func77, Try.ntmps77
  go_wp2_with (first | (go_at_call 97; (with_reducible refine (in_yes _ _ _ _ _ (by omega)).mono ?_); rintro e w' ⟨rfl, ⟨nd, rfl⟩⟩) | (go_at_call 97; (with_reducible refine (in_no _ _ _ _ _ (by omega)).mono ?_); rintro e w' ⟨rfl, ⟨nd, rfl⟩⟩))
  go_ret
  exact ⟨rfl, by repeat (first | exact Drawn0.refl _ | apply Drawn0.step)⟩
set_option maxHeartbeats 8000000 in
set_option maxRecDepth 100000 in
theorem sign_e13 (s : ByteArray) (i : Int) (w : World) (h0 : 0 ≤ i) (hi : i < s.size) (hs : s.size ≤ 9223372036854775000) (hr : 0 ≤ bt s i) (cb : 225 ≤ bt s i ∧ bt s i < 237) (c1 : (i + 2 < s.size ∧ 128 ≤ bt s (i + 2) ∧ bt s (i + 2) ≤ 191)) (c2 : (s.size ≤ i + 1 ∨ bt s (i + 1) < 128 ∨ 191 < bt s (i + 1))) (c3 : (i + 3 < s.size ∧ 128 ≤ bt s (i + 3) ∧ bt s (i + 3) ≤ 191)) : SignSaid s i w := by
  have hv : (sgStep s i).getD 0 = 0 := by
    have hH := sgH_is (bt s i)
    repeat (first | rw [if_pos (by omega)] at hH | rw [if_neg (by omega)] at hH)
    rw [sgStep_getD, hH]
    try simp only [sgR_0, sgR_1, sgR_2, sgR_3, reduceCtorEq, if_false, if_true, show i + 1 + 1 = i + 2 by omega, show i + 2 + 1 = i + 3 by omega]
    (try repeat (first | rw [if_pos (by omega)] | rw [if_neg (by omega)]))
    all_goals first | rfl | ((repeat' split) <;> first | rfl | omega)
  unfold SignSaid
  rw [hv]
  clear hv
  go_enter Try.func77, Try.ntmps77
  go_wp2_with (first | (go_at_call 97; (with_reducible refine (in_yes _ _ _ _ _ (by omega)).mono ?_); rintro e w' ⟨rfl, ⟨nd, rfl⟩⟩) | (go_at_call 97; (with_reducible refine (in_no _ _ _ _ _ (by omega)).mono ?_); rintro e w' ⟨rfl, ⟨nd, rfl⟩⟩))
  go_ret
  exact ⟨rfl, by repeat (first | exact Drawn0.refl _ | apply Drawn0.step)⟩
set_option maxHeartbeats 8000000 in
set_option maxRecDepth 100000 in
theorem sign_ed0 (s : ByteArray) (i : Int) (w : World) (h0 : 0 ≤ i) (hi : i < s.size) (hs : s.size ≤ 9223372036854775000) (hr : 0 ≤ bt s i) (cb : bt s i = 237) (c1 : (s.size ≤ i + 2 ∨ bt s (i + 2) < 128 ∨ 191 < bt s (i + 2))) : SignSaid s i w := by
  have hv : (sgStep s i).getD 0 = 0 := by
    have hH := sgH_is (bt s i)
    repeat (first | rw [if_pos (by omega)] at hH | rw [if_neg (by omega)] at hH)
    rw [sgStep_getD, hH]
    try simp only [sgR_0, sgR_1, sgR_2, sgR_3, reduceCtorEq, if_false, if_true, show i + 1 + 1 = i + 2 by omega, show i + 2 + 1 = i + 3 by omega]
    (try repeat (first | rw [if_pos (by omega)] | rw [if_neg (by omega)]))
    all_goals first | rfl | ((repeat' split) <;> first | rfl | omega)
  unfold SignSaid
  rw [hv]
  clear hv
  go_enter Try.func77, Try.ntmps77
  go_wp2_with (first | (go_at_call 97; (with_reducible refine (in_yes _ _ _ _ _ (by omega)).mono ?_); rintro e w' ⟨rfl, ⟨nd, rfl⟩⟩) | (go_at_call 97; (with_reducible refine (in_no _ _ _ _ _ (by omega)).mono ?_); rintro e w' ⟨rfl, ⟨nd, rfl⟩⟩))
  go_ret
  exact ⟨rfl, by repeat (first | exact Drawn0.refl _ | apply Drawn0.step)⟩
set_option maxHeartbeats 8000000 in
set_option maxRecDepth 100000 in
theorem sign_ed1 (s : ByteArray) (i : Int) (w : World) (h0 : 0 ≤ i) (hi : i < s.size) (hs : s.size ≤ 9223372036854775000) (hr : 0 ≤ bt s i) (cb : bt s i = 237) (c1 : (i + 2 < s.size ∧ 128 ≤ bt s (i + 2) ∧ bt s (i + 2) ≤ 191)) (c2 : (i + 1 < s.size ∧ 128 ≤ bt s (i + 1) ∧ bt s (i + 1) ≤ 159)) : SignSaid s i w := by
  have hv : (sgStep s i).getD 0 = 3 := by
    have hH := sgH_is (bt s i)
    repeat (first | rw [if_pos (by omega)] at hH | rw [if_neg (by omega)] at hH)
    rw [sgStep_getD, hH]
    try simp only [sgR_0, sgR_1, sgR_2, sgR_3, reduceCtorEq, if_false, if_true, show i + 1 + 1 = i + 2 by omega, show i + 2 + 1 = i + 3 by omega]
    (try repeat (first | rw [if_pos (by omega)] | rw [if_neg (by omega)]))
    all_goals first | rfl | ((repeat' split) <;> first | rfl | omega)
  unfold SignSaid
  rw [hv]
  clear hv
  go_enter Try.func77, Try.ntmps77
  go_wp2_with (first | (go_at_call 97; (with_reducible refine (in_yes _ _ _ _ _ (by omega)).mono ?_); rintro e w' ⟨rfl, ⟨nd, rfl⟩⟩) | (go_at_call 97; (with_reducible refine (in_no _ _ _ _ _ (by omega)).mono ?_); rintro e w' ⟨rfl, ⟨nd, rfl⟩⟩))
  go_ret
  exact ⟨rfl, by repeat (first | exact Drawn0.refl _ | apply Drawn0.step)⟩
set_option maxHeartbeats 8000000 in
set_option maxRecDepth 100000 in
theorem sign_ed2 (s : ByteArray) (i : Int) (w : World) (h0 : 0 ≤ i) (hi : i < s.size) (hs : s.size ≤ 9223372036854775000) (hr : 0 ≤ bt s i) (cb : bt s i = 237) (c1 : (i + 2 < s.size ∧ 128 ≤ bt s (i + 2) ∧ bt s (i + 2) ≤ 191)) (c2 : (s.size ≤ i + 1 ∨ bt s (i + 1) < 128 ∨ 159 < bt s (i + 1))) (c3 : (s.size ≤ i + 3 ∨ bt s (i + 3) < 128 ∨ 191 < bt s (i + 3))) : SignSaid s i w := by
  have hv : (sgStep s i).getD 0 = 0 := by
    have hH := sgH_is (bt s i)
    repeat (first | rw [if_pos (by omega)] at hH | rw [if_neg (by omega)] at hH)
    rw [sgStep_getD, hH]
    try simp only [sgR_0, sgR_1, sgR_2, sgR_3, reduceCtorEq, if_false, if_true, show i + 1 + 1 = i + 2 by omega, show i + 2 + 1 = i + 3 by omega]
    (try repeat (first | rw [if_pos (by omega)] | rw [if_neg (by omega)]))
    all_goals first | rfl | ((repeat' split) <;> first | rfl | omega)
  unfold SignSaid
  rw [hv]
  clear hv
  go_enter Try.func77, Try.ntmps77
  go_wp2_with (first | (go_at_call 97; (with_reducible refine (in_yes _ _ _ _ _ (by omega)).mono ?_); rintro e w' ⟨rfl, ⟨nd, rfl⟩⟩) | (go_at_call 97; (with_reducible refine (in_no _ _ _ _ _ (by omega)).mono ?_); rintro e w' ⟨rfl, ⟨nd, rfl⟩⟩))
  go_ret
  exact ⟨rfl, by repeat (first | exact Drawn0.refl _ | apply Drawn0.step)⟩
set_option maxHeartbeats 8000000 in
set_option maxRecDepth 100000 in
theorem sign_ed3 (s : ByteArray) (i : Int) (w : World) (h0 : 0 ≤ i) (hi : i < s.size) (hs : s.size ≤ 9223372036854775000) (hr : 0 ≤ bt s i) (cb : bt s i = 237) (c1 : (i + 2 < s.size ∧ 128 ≤ bt s (i + 2) ∧ bt s (i + 2) ≤ 191)) (c2 : (s.size ≤ i + 1 ∨ bt s (i + 1) < 128 ∨ 159 < bt s (i + 1))) (c3 : (i + 3 < s.size ∧ 128 ≤ bt s (i + 3) ∧ bt s (i + 3) ≤ 191)) : SignSaid s i w := by
  have hv : (sgStep s i).getD 0 = 0 := by
    have hH := sgH_is (bt s i)
    repeat (first | rw [if_pos (by omega)] at hH | rw [if_neg (by omega)] at hH)
    rw [sgStep_getD, hH]
    try simp only [sgR_0, sgR_1, sgR_2, sgR_3, reduceCtorEq, if_false, if_true, show i + 1 + 1 = i + 2 by omega, show i + 2 + 1 = i + 3 by omega]
    (try repeat (first | rw [if_pos (by omega)] | rw [if_neg (by omega)]))
    all_goals first | rfl | ((repeat' split) <;> first | rfl | omega)
  unfold SignSaid
  rw [hv]
  clear hv
  go_enter Try.func77, Try.ntmps77
  go_wp2_with (first | (go_at_call 97; (with_reducible refine (in_yes _ _ _ _ _ (by omega)).mono ?_); rintro e w' ⟨rfl, ⟨nd, rfl⟩⟩) | (go_at_call 97; (with_reducible refine (in_no _ _ _ _ _ (by omega)).mono ?_); rintro e w' ⟨rfl, ⟨nd, rfl⟩⟩))
  go_ret
  exact ⟨rfl, by repeat (first | exact Drawn0.refl _ | apply Drawn0.step)⟩
set_option maxHeartbeats 8000000 in
set_option maxRecDepth 100000 in
theorem sign_ee0 (s : ByteArray) (i : Int) (w : World) (h0 : 0 ≤ i) (hi : i < s.size) (hs : s.size ≤ 9223372036854775000) (hr : 0 ≤ bt s i) (cb : 238 ≤ bt s i ∧ bt s i < 240) (c1 : (s.size ≤ i + 2 ∨ bt s (i + 2) < 128 ∨ 191 < bt s (i + 2))) : SignSaid s i w := by
  have hv : (sgStep s i).getD 0 = 0 := by
    have hH := sgH_is (bt s i)
    repeat (first | rw [if_pos (by omega)] at hH | rw [if_neg (by omega)] at hH)
    rw [sgStep_getD, hH]
    try simp only [sgR_0, sgR_1, sgR_2, sgR_3, reduceCtorEq, if_false, if_true, show i + 1 + 1 = i + 2 by omega, show i + 2 + 1 = i + 3 by omega]
    (try repeat (first | rw [if_pos (by omega)] | rw [if_neg (by omega)]))
    all_goals first | rfl | ((repeat' split) <;> first | rfl | omega)
  unfold SignSaid
  rw [hv]
  clear hv
  go_enter Try.func77, Try.ntmps77
  go_wp2_with (first | (go_at_call 97; (with_reducible refine (in_yes _ _ _ _ _ (by omega)).mono ?_); rintro e w' ⟨rfl, ⟨nd, rfl⟩⟩) | (go_at_call 97; (with_reducible refine (in_no _ _ _ _ _ (by omega)).mono ?_); rintro e w' ⟨rfl, ⟨nd, rfl⟩⟩))
  go_ret
  exact ⟨rfl, by repeat (first | exact Drawn0.refl _ | apply Drawn0.step)⟩
set_option maxHeartbeats 8000000 in
set_option maxRecDepth 100000 in
theorem sign_ee1 (s : ByteArray) (i : Int) (w : World) (h0 : 0 ≤ i) (hi : i < s.size) (hs : s.size ≤ 9223372036854775000) (hr : 0 ≤ bt s i) (cb : 238 ≤ bt s i ∧ bt s i < 240) (c1 : (i + 2 < s.size ∧ 128 ≤ bt s (i + 2) ∧ bt s (i + 2) ≤ 191)) (c2 : (i + 1 < s.size ∧ 128 ≤ bt s (i + 1) ∧ bt s (i + 1) ≤ 191)) : SignSaid s i w := by
  have hv : (sgStep s i).getD 0 = 3 := by
    have hH := sgH_is (bt s i)
    repeat (first | rw [if_pos (by omega)] at hH | rw [if_neg (by omega)] at hH)
    rw [sgStep_getD, hH]
    try simp only [sgR_0, sgR_1, sgR_2, sgR_3, reduceCtorEq, if_false, if_true, show i + 1 + 1 = i + 2 by omega, show i + 2 + 1 = i + 3 by omega]
    (try repeat (first | rw [if_pos (by omega)] | rw [if_neg (by omega)]))
    all_goals first | rfl | ((repeat' split) <;> first | rfl | omega)
  unfold SignSaid
  rw [hv]
  clear hv
  go_enter Try.func77, Try.ntmps77
  go_wp2_with (first | (go_at_call 97; (with_reducible refine (in_yes _ _ _ _ _ (by omega)).mono ?_); rintro e w' ⟨rfl, ⟨nd, rfl⟩⟩) | (go_at_call 97; (with_reducible refine (in_no _ _ _ _ _ (by omega)).mono ?_); rintro e w' ⟨rfl, ⟨nd, rfl⟩⟩))
  go_ret
  exact ⟨rfl, by repeat (first | exact Drawn0.refl _ | apply Drawn0.step)⟩
set_option maxHeartbeats 8000000 in
set_option maxRecDepth 100000 in
theorem sign_ee2 (s : ByteArray) (i : Int) (w : World) (h0 : 0 ≤ i) (hi : i < s.size) (hs : s.size ≤ 9223372036854775000) (hr : 0 ≤ bt s i) (cb : 238 ≤ bt s i ∧ bt s i < 240) (c1 : (i + 2 < s.size ∧ 128 ≤ bt s (i + 2) ∧ bt s (i + 2) ≤ 191)) (c2 : (s.size ≤ i + 1 ∨ bt s (i + 1) < 128 ∨ 191 < bt s (i + 1))) (c3 : (s.size ≤ i + 3 ∨ bt s (i + 3) < 128 ∨ 191 < bt s (i + 3))) : SignSaid s i w := by
  have hv : (sgStep s i).getD 0 = 0 := by
    have hH := sgH_is (bt s i)
    repeat (first | rw [if_pos (by omega)] at hH | rw [if_neg (by omega)] at hH)
    rw [sgStep_getD, hH]
    try simp only [sgR_0, sgR_1, sgR_2, sgR_3, reduceCtorEq, if_false, if_true, show i + 1 + 1 = i + 2 by omega, show i + 2 + 1 = i + 3 by omega]
    (try repeat (first | rw [if_pos (by omega)] | rw [if_neg (by omega)]))
    all_goals first | rfl | ((repeat' split) <;> first | rfl | omega)
  unfold SignSaid
  rw [hv]
  clear hv
  go_enter Try.func77, Try.ntmps77
  go_wp2_with (first | (go_at_call 97; (with_reducible refine (in_yes _ _ _ _ _ (by omega)).mono ?_); rintro e w' ⟨rfl, ⟨nd, rfl⟩⟩) | (go_at_call 97; (with_reducible refine (in_no _ _ _ _ _ (by omega)).mono ?_); rintro e w' ⟨rfl, ⟨nd, rfl⟩⟩))
  go_ret
  exact ⟨rfl, by repeat (first | exact Drawn0.refl _ | apply Drawn0.step)⟩
set_option maxHeartbeats 8000000 in
set_option maxRecDepth 100000 in
theorem sign_ee3 (s : ByteArray) (i : Int) (w : World) (h0 : 0 ≤ i) (hi : i < s.size) (hs : s.size ≤ 9223372036854775000) (hr : 0 ≤ bt s i) (cb : 238 ≤ bt s i ∧ bt s i < 240) (c1 : (i + 2 < s.size ∧ 128 ≤ bt s (i + 2) ∧ bt s (i + 2) ≤ 191)) (c2 : (s.size ≤ i + 1 ∨ bt s (i + 1) < 128 ∨ 191 < bt s (i + 1))) (c3 : (i + 3 < s.size ∧ 128 ≤ bt s (i + 3) ∧ bt s (i + 3) ≤ 191)) : SignSaid s i w := by
  have hv : (sgStep s i).getD 0 = 0 := by
    have hH := sgH_is (bt s i)
    repeat (first | rw [if_pos (by omega)] at hH | rw [if_neg (by omega)] at hH)
    rw [sgStep_getD, hH]
    try simp only [sgR_0, sgR_1, sgR_2, sgR_3, reduceCtorEq, if_false, if_true, show i + 1 + 1 = i + 2 by omega, show i + 2 + 1 = i + 3 by omega]
    (try repeat (first | rw [if_pos (by omega)] | rw [if_neg (by omega)]))
    all_goals first | rfl | ((repeat' split) <;> first | rfl | omega)
  unfold SignSaid
  rw [hv]
  clear hv
  go_enter Try.func77, Try.ntmps77
  go_wp2_with (first | (go_at_call 97; (with_reducible refine (in_yes _ _ _ _ _ (by omega)).mono ?_); rintro e w' ⟨rfl, ⟨nd, rfl⟩⟩) | (go_at_call 97; (with_reducible refine (in_no _ _ _ _ _ (by omega)).mono ?_); rintro e w' ⟨rfl, ⟨nd, rfl⟩⟩))
  go_ret
  exact ⟨rfl, by repeat (first | exact Drawn0.refl _ | apply Drawn0.step)⟩
set_option maxHeartbeats 8000000 in
set_option maxRecDepth 100000 in
theorem sign_f00 (s : ByteArray) (i : Int) (w : World) (h0 : 0 ≤ i) (hi : i < s.size) (hs : s.size ≤ 9223372036854775000) (hr : 0 ≤ bt s i) (cb : bt s i = 240) (c1 : (s.size ≤ i + 2 ∨ bt s (i + 2) < 128 ∨ 191 < bt s (i + 2))) : SignSaid s i w := by
  have hv : (sgStep s i).getD 0 = 0 := by
    have hH := sgH_is (bt s i)
    repeat (first | rw [if_pos (by omega)] at hH | rw [if_neg (by omega)] at hH)
    rw [sgStep_getD, hH]
    try simp only [sgR_0, sgR_1, sgR_2, sgR_3, reduceCtorEq, if_false, if_true, show i + 1 + 1 = i + 2 by omega, show i + 2 + 1 = i + 3 by omega]
    (try repeat (first | rw [if_pos (by omega)] | rw [if_neg (by omega)]))
    all_goals first | rfl | ((repeat' split) <;> first | rfl | omega)
  unfold SignSaid
  rw [hv]
  clear hv
  go_enter Try.func77, Try.ntmps77
  go_wp2_with (first | (go_at_call 97; (with_reducible refine (in_yes _ _ _ _ _ (by omega)).mono ?_); rintro e w' ⟨rfl, ⟨nd, rfl⟩⟩) | (go_at_call 97; (with_reducible refine (in_no _ _ _ _ _ (by omega)).mono ?_); rintro e w' ⟨rfl, ⟨nd, rfl⟩⟩))
  go_ret
  exact ⟨rfl, by repeat (first | exact Drawn0.refl _ | apply Drawn0.step)⟩
set_option maxHeartbeats 8000000 in
set_option maxRecDepth 100000 in
theorem sign_f01 (s : ByteArray) (i : Int) (w : World) (h0 : 0 ≤ i) (hi : i < s.size) (hs : s.size ≤ 9223372036854775000) (hr : 0 ≤ bt s i) (cb : bt s i = 240) (c1 : (i + 2 < s.size ∧ 128 ≤ bt s (i + 2) ∧ bt s (i + 2) ≤ 191)) (c2 : (s.size ≤ i + 3 ∨ bt s (i + 3) < 128 ∨ 191 < bt s (i + 3))) : SignSaid s i w := by
  have hv : (sgStep s i).getD 0 = 0 := by
    have hH := sgH_is (bt s i)
    repeat (first | rw [if_pos (by omega)] at hH | rw [if_neg (by omega)] at hH)
    rw [sgStep_getD, hH]
    try simp only [sgR_0, sgR_1, sgR_2, sgR_3, reduceCtorEq, if_false, if_true, show i + 1 + 1 = i + 2 by omega, show i + 2 + 1 = i + 3 by omega]
    (try repeat (first | rw [if_pos (by omega)] | rw [if_neg (by omega)]))
    all_goals first | rfl | ((repeat' split) <;> first | rfl | omega)
  unfold SignSaid
  rw [hv]
  clear hv
  go_enter Try.func77, Try.ntmps77
  go_wp2_with (first | (go_at_call 97; (with_reducible refine (in_yes _ _ _ _ _ (by omega)).mono ?_); rintro e w' ⟨rfl, ⟨nd, rfl⟩⟩) | (go_at_call 97; (with_reducible refine (in_no _ _ _ _ _ (by omega)).mono ?_); rintro e w' ⟨rfl, ⟨nd, rfl⟩⟩))
  go_ret
  exact ⟨rfl, by repeat (first | exact Drawn0.refl _ | apply Drawn0.step)⟩
set_option maxHeartbeats 8000000 in
set_option maxRecDepth 100000 in
theorem sign_f02 (s : ByteArray) (i : Int) (w : World) (h0 : 0 ≤ i) (hi : i < s.size) (hs : s.size ≤ 9223372036854775000) (hr : 0 ≤ bt s i) (cb : bt s i = 240) (c1 : (i + 2 < s.size ∧ 128 ≤ bt s (i + 2) ∧ bt s (i + 2) ≤ 191)) (c2 : (i + 3 < s.size ∧ 128 ≤ bt s (i + 3) ∧ bt s (i + 3) ≤ 191)) (c3 : (i + 1 < s.size ∧ 144 ≤ bt s (i + 1) ∧ bt s (i + 1) ≤ 191)) : SignSaid s i w := by
  have hv : (sgStep s i).getD 0 = 4 := by
    have hH := sgH_is (bt s i)
    repeat (first | rw [if_pos (by omega)] at hH | rw [if_neg (by omega)] at hH)
    rw [sgStep_getD, hH]
    try simp only [sgR_0, sgR_1, sgR_2, sgR_3, reduceCtorEq, if_false, if_true, show i + 1 + 1 = i + 2 by omega, show i + 2 + 1 = i + 3 by omega]
    (try repeat (first | rw [if_pos (by omega)] | rw [if_neg (by omega)]))
    all_goals first | rfl | ((repeat' split) <;> first | rfl | omega)
  unfold SignSaid
  rw [hv]
  clear hv
  go_enter Try.func77, Try.ntmps77
  go_wp2_with (first | (go_at_call 97; (with_reducible refine (in_yes _ _ _ _ _ (by omega)).mono ?_); rintro e w' ⟨rfl, ⟨nd, rfl⟩⟩) | (go_at_call 97; (with_reducible refine (in_no _ _ _ _ _ (by omega)).mono ?_); rintro e w' ⟨rfl, ⟨nd, rfl⟩⟩))
  go_ret
  exact ⟨rfl, by repeat (first | exact Drawn0.refl _ | apply Drawn0.step)⟩
set_option maxHeartbeats 8000000 in
set_option maxRecDepth 100000 in
theorem sign_f03 (s : ByteArray) (i : Int) (w : World) (h0 : 0 ≤ i) (hi : i < s.size) (hs : s.size ≤ 9223372036854775000) (hr : 0 ≤ bt s i) (cb : bt s i = 240) (c1 : (i + 2 < s.size ∧ 128 ≤ bt s (i + 2) ∧ bt s (i + 2) ≤ 191)) (c2 : (i + 3 < s.size ∧ 128 ≤ bt s (i + 3) ∧ bt s (i + 3) ≤ 191)) (c3 : (s.size ≤ i + 1 ∨ bt s (i + 1) < 144 ∨ 191 < bt s (i + 1))) : SignSaid s i w := by
  have hv : (sgStep s i).getD 0 = 0 := by
    have hH := sgH_is (bt s i)
    repeat (first | rw [if_pos (by omega)] at hH | rw [if_neg (by omega)] at hH)
    rw [sgStep_getD, hH]
    try simp only [sgR_0, sgR_1, sgR_2, sgR_3, reduceCtorEq, if_false, if_true, show i + 1 + 1 = i + 2 by omega, show i + 2 + 1 = i + 3 by omega]
    (try repeat (first | rw [if_pos (by omega)] | rw [if_neg (by omega)]))
    all_goals first | rfl | ((repeat' split) <;> first | rfl | omega)
  unfold SignSaid
  rw [hv]
  clear hv
  go_enter Try.func77, Try.ntmps77
  go_wp2_with (first | (go_at_call 97; (with_reducible refine (in_yes _ _ _ _ _ (by omega)).mono ?_); rintro e w' ⟨rfl, ⟨nd, rfl⟩⟩) | (go_at_call 97; (with_reducible refine (in_no _ _ _ _ _ (by omega)).mono ?_); rintro e w' ⟨rfl, ⟨nd, rfl⟩⟩))
  go_ret
  exact ⟨rfl, by repeat (first | exact Drawn0.refl _ | apply Drawn0.step)⟩
set_option maxHeartbeats 8000000 in
set_option maxRecDepth 100000 in
theorem sign_f10 (s : ByteArray) (i : Int) (w : World) (h0 : 0 ≤ i) (hi : i < s.size) (hs : s.size ≤ 9223372036854775000) (hr : 0 ≤ bt s i) (cb : 241 ≤ bt s i ∧ bt s i < 244) (c1 : (s.size ≤ i + 2 ∨ bt s (i + 2) < 128 ∨ 191 < bt s (i + 2))) : SignSaid s i w := by
  have hv : (sgStep s i).getD 0 = 0 := by
    have hH := sgH_is (bt s i)
    repeat (first | rw [if_pos (by omega)] at hH | rw [if_neg (by omega)] at hH)
    rw [sgStep_getD, hH]
    try simp only [sgR_0, sgR_1, sgR_2, sgR_3, reduceCtorEq, if_false, if_true, show i + 1 + 1 = i + 2 by omega, show i + 2 + 1 = i + 3 by omega]
    (try repeat (first | rw [if_pos (by omega)] | rw [if_neg (by omega)]))
    all_goals first | rfl | ((repeat' split) <;> first | rfl | omega)
  unfold SignSaid
  rw [hv]
  clear hv
  go_enter Try.func77, Try.ntmps77
  go_wp2_with (first | (go_at_call 97; (with_reducible refine (in_yes _ _ _ _ _ (by omega)).mono ?_); rintro e w' ⟨rfl, ⟨nd, rfl⟩⟩) | (go_at_call 97; (with_reducible refine (in_no _ _ _ _ _ (by omega)).mono ?_); rintro e w' ⟨rfl, ⟨nd, rfl⟩⟩))
  go_ret
  exact ⟨rfl, by repeat (first | exact Drawn0.refl _ | apply Drawn0.step)⟩
set_option maxHeartbeats 8000000 in
set_option maxRecDepth 100000 in
theorem sign_f11 (s : ByteArray) (i : Int) (w : World) (h0 : 0 ≤ i) (hi : i < s.size) (hs : s.size ≤ 9223372036854775000) (hr : 0 ≤ bt s i) (cb : 241 ≤ bt s i ∧ bt s i < 244) (c1 : (i + 2 < s.size ∧ 128 ≤ bt s (i + 2) ∧ bt s (i + 2) ≤ 191)) (c2 : (s.size ≤ i + 3 ∨ bt s (i + 3) < 128 ∨ 191 < bt s (i + 3))) : SignSaid s i w := by
  have hv : (sgStep s i).getD 0 = 0 := by
    have hH := sgH_is (bt s i)
    repeat (first | rw [if_pos (by omega)] at hH | rw [if_neg (by omega)] at hH)
    rw [sgStep_getD, hH]
    try simp only [sgR_0, sgR_1, sgR_2, sgR_3, reduceCtorEq, if_false, if_true, show i + 1 + 1 = i + 2 by omega, show i + 2 + 1 = i + 3 by omega]
    (try repeat (first | rw [if_pos (by omega)] | rw [if_neg (by omega)]))
    all_goals first | rfl | ((repeat' split) <;> first | rfl | omega)
  unfold SignSaid
  rw [hv]
  clear hv
  go_enter Try.func77, Try.ntmps77
  go_wp2_with (first | (go_at_call 97; (with_reducible refine (in_yes _ _ _ _ _ (by omega)).mono ?_); rintro e w' ⟨rfl, ⟨nd, rfl⟩⟩) | (go_at_call 97; (with_reducible refine (in_no _ _ _ _ _ (by omega)).mono ?_); rintro e w' ⟨rfl, ⟨nd, rfl⟩⟩))
  go_ret
  exact ⟨rfl, by repeat (first | exact Drawn0.refl _ | apply Drawn0.step)⟩
set_option maxHeartbeats 8000000 in
set_option maxRecDepth 100000 in
theorem sign_f12 (s : ByteArray) (i : Int) (w : World) (h0 : 0 ≤ i) (hi : i < s.size) (hs : s.size ≤ 9223372036854775000) (hr : 0 ≤ bt s i) (cb : 241 ≤ bt s i ∧ bt s i < 244) (c1 : (i + 2 < s.size ∧ 128 ≤ bt s (i + 2) ∧ bt s (i + 2) ≤ 191)) (c2 : (i + 3 < s.size ∧ 128 ≤ bt s (i + 3) ∧ bt s (i + 3) ≤ 191)) (c3 : (i + 1 < s.size ∧ 128 ≤ bt s (i + 1) ∧ bt s (i + 1) ≤ 191)) : SignSaid s i w := by
  have hv : (sgStep s i).getD 0 = 4 := by
    have hH := sgH_is (bt s i)
    repeat (first | rw [if_pos (by omega)] at hH | rw [if_neg (by omega)] at hH)
    rw [sgStep_getD, hH]
    try simp only [sgR_0, sgR_1, sgR_2, sgR_3, reduceCtorEq, if_false, if_true, show i + 1 + 1 = i + 2 by omega, show i + 2 + 1 = i + 3 by omega]
    (try repeat (first | rw [if_pos (by omega)] | rw [if_neg (by omega)]))
    all_goals first | rfl | ((repeat' split) <;> first | rfl | omega)
  unfold SignSaid
  rw [hv]
  clear hv
  go_enter Try.func77, Try.ntmps77
  go_wp2_with (first | (go_at_call 97; (with_reducible refine (in_yes _ _ _ _ _ (by omega)).mono ?_); rintro e w' ⟨rfl, ⟨nd, rfl⟩⟩) | (go_at_call 97; (with_reducible refine (in_no _ _ _ _ _ (by omega)).mono ?_); rintro e w' ⟨rfl, ⟨nd, rfl⟩⟩))
  go_ret
  exact ⟨rfl, by repeat (first | exact Drawn0.refl _ | apply Drawn0.step)⟩
set_option maxHeartbeats 8000000 in
set_option maxRecDepth 100000 in
theorem sign_f13 (s : ByteArray) (i : Int) (w : World) (h0 : 0 ≤ i) (hi : i < s.size) (hs : s.size ≤ 9223372036854775000) (hr : 0 ≤ bt s i) (cb : 241 ≤ bt s i ∧ bt s i < 244) (c1 : (i + 2 < s.size ∧ 128 ≤ bt s (i + 2) ∧ bt s (i + 2) ≤ 191)) (c2 : (i + 3 < s.size ∧ 128 ≤ bt s (i + 3) ∧ bt s (i + 3) ≤ 191)) (c3 : (s.size ≤ i + 1 ∨ bt s (i + 1) < 128 ∨ 191 < bt s (i + 1))) : SignSaid s i w := by
  have hv : (sgStep s i).getD 0 = 0 := by
    have hH := sgH_is (bt s i)
    repeat (first | rw [if_pos (by omega)] at hH | rw [if_neg (by omega)] at hH)
    rw [sgStep_getD, hH]
    try simp only [sgR_0, sgR_1, sgR_2, sgR_3, reduceCtorEq, if_false, if_true, show i + 1 + 1 = i + 2 by omega, show i + 2 + 1 = i + 3 by omega]
    (try repeat (first | rw [if_pos (by omega)] | rw [if_neg (by omega)]))
    all_goals first | rfl | ((repeat' split) <;> first | rfl | omega)
  unfold SignSaid
  rw [hv]
  clear hv
  go_enter Try.func77, Try.ntmps77
  go_wp2_with (first | (go_at_call 97; (with_reducible refine (in_yes _ _ _ _ _ (by omega)).mono ?_); rintro e w' ⟨rfl, ⟨nd, rfl⟩⟩) | (go_at_call 97; (with_reducible refine (in_no _ _ _ _ _ (by omega)).mono ?_); rintro e w' ⟨rfl, ⟨nd, rfl⟩⟩))
  go_ret
  exact ⟨rfl, by repeat (first | exact Drawn0.refl _ | apply Drawn0.step)⟩
set_option maxHeartbeats 8000000 in
set_option maxRecDepth 100000 in
theorem sign_f40 (s : ByteArray) (i : Int) (w : World) (h0 : 0 ≤ i) (hi : i < s.size) (hs : s.size ≤ 9223372036854775000) (hr : 0 ≤ bt s i) (cb : bt s i = 244) (c1 : (s.size ≤ i + 2 ∨ bt s (i + 2) < 128 ∨ 191 < bt s (i + 2))) : SignSaid s i w := by
  have hv : (sgStep s i).getD 0 = 0 := by
    have hH := sgH_is (bt s i)
    repeat (first | rw [if_pos (by omega)] at hH | rw [if_neg (by omega)] at hH)
    rw [sgStep_getD, hH]
    try simp only [sgR_0, sgR_1, sgR_2, sgR_3, reduceCtorEq, if_false, if_true, show i + 1 + 1 = i + 2 by omega, show i + 2 + 1 = i + 3 by omega]
    (try repeat (first | rw [if_pos (by omega)] | rw [if_neg (by omega)]))
    all_goals first | rfl | ((repeat' split) <;> first | rfl | omega)
  unfold SignSaid
  rw [hv]
  clear hv
  go_enter Try.func77, Try.ntmps77
  go_wp2_with (first | (go_at_call 97; (with_reducible refine (in_yes _ _ _ _ _ (by omega)).mono ?_); rintro e w' ⟨rfl, ⟨nd, rfl⟩⟩) | (go_at_call 97; (with_reducible refine (in_no _ _ _ _ _ (by omega)).mono ?_); rintro e w' ⟨rfl, ⟨nd, rfl⟩⟩))
  go_ret
  exact ⟨rfl, by repeat (first | exact Drawn0.refl _ | apply Drawn0.step)⟩
set_option maxHeartbeats 8000000 in
set_option maxRecDepth 100000 in
theorem sign_f41 (s : ByteArray) (i : Int) (w : World) (h0 : 0 ≤ i) (hi : i < s.size) (hs : s.size ≤ 9223372036854775000) (hr : 0 ≤ bt s i) (cb : bt s i = 244) (c1 : (i + 2 < s.size ∧ 128 ≤ bt s (i + 2) ∧ bt s (i + 2) ≤ 191)) (c2 : (s.size ≤ i + 3 ∨ bt s (i + 3) < 128 ∨ 191 < bt s (i + 3))) : SignSaid s i w := by
  have hv : (sgStep s i).getD 0 = 0 := by
    have hH := sgH_is (bt s i)
    repeat (first | rw [if_pos (by omega)] at hH | rw [if_neg (by omega)] at hH)
    rw [sgStep_getD, hH]
    try simp only [sgR_0, sgR_1, sgR_2, sgR_3, reduceCtorEq, if_false, if_true, show i + 1 + 1 = i + 2 by omega, show i + 2 + 1 = i + 3 by omega]
    (try repeat (first | rw [if_pos (by omega)] | rw [if_neg (by omega)]))
    all_goals first | rfl | ((repeat' split) <;> first | rfl | omega)
  unfold SignSaid
  rw [hv]
  clear hv
  go_enter Try.func77, Try.ntmps77
  go_wp2_with (first | (go_at_call 97; (with_reducible refine (in_yes _ _ _ _ _ (by omega)).mono ?_); rintro e w' ⟨rfl, ⟨nd, rfl⟩⟩) | (go_at_call 97; (with_reducible refine (in_no _ _ _ _ _ (by omega)).mono ?_); rintro e w' ⟨rfl, ⟨nd, rfl⟩⟩))
  go_ret
  exact ⟨rfl, by repeat (first | exact Drawn0.refl _ | apply Drawn0.step)⟩
set_option maxHeartbeats 8000000 in
set_option maxRecDepth 100000 in
theorem sign_f42 (s : ByteArray) (i : Int) (w : World) (h0 : 0 ≤ i) (hi : i < s.size) (hs : s.size ≤ 9223372036854775000) (hr : 0 ≤ bt s i) (cb : bt s i = 244) (c1 : (i + 2 < s.size ∧ 128 ≤ bt s (i + 2) ∧ bt s (i + 2) ≤ 191)) (c2 : (i + 3 < s.size ∧ 128 ≤ bt s (i + 3) ∧ bt s (i + 3) ≤ 191)) (c3 : (i + 1 < s.size ∧ 128 ≤ bt s (i + 1) ∧ bt s (i + 1) ≤ 143)) : SignSaid s i w := by
  have hv : (sgStep s i).getD 0 = 4 := by
    have hH := sgH_is (bt s i)
    repeat (first | rw [if_pos (by omega)] at hH | rw [if_neg (by omega)] at hH)
    rw [sgStep_getD, hH]
    try simp only [sgR_0, sgR_1, sgR_2, sgR_3, reduceCtorEq, if_false, if_true, show i + 1 + 1 = i + 2 by omega, show i + 2 + 1 = i + 3 by omega]
    (try repeat (first | rw [if_pos (by omega)] | rw [if_neg (by omega)]))
    all_goals first | rfl | ((repeat' split) <;> first | rfl | omega)
  unfold SignSaid
  rw [hv]
  clear hv
  go_enter Try.func77, Try.ntmps77
  go_wp2_with (first | (go_at_call 97; (with_reducible refine (in_yes _ _ _ _ _ (by omega)).mono ?_); rintro e w' ⟨rfl, ⟨nd, rfl⟩⟩) | (go_at_call 97; (with_reducible refine (in_no _ _ _ _ _ (by omega)).mono ?_); rintro e w' ⟨rfl, ⟨nd, rfl⟩⟩))
  go_ret
  exact ⟨rfl, by repeat (first | exact Drawn0.refl _ | apply Drawn0.step)⟩
set_option maxHeartbeats 8000000 in
set_option maxRecDepth 100000 in
theorem sign_f43 (s : ByteArray) (i : Int) (w : World) (h0 : 0 ≤ i) (hi : i < s.size) (hs : s.size ≤ 9223372036854775000) (hr : 0 ≤ bt s i) (cb : bt s i = 244) (c1 : (i + 2 < s.size ∧ 128 ≤ bt s (i + 2) ∧ bt s (i + 2) ≤ 191)) (c2 : (i + 3 < s.size ∧ 128 ≤ bt s (i + 3) ∧ bt s (i + 3) ≤ 191)) (c3 : (s.size ≤ i + 1 ∨ bt s (i + 1) < 128 ∨ 143 < bt s (i + 1))) : SignSaid s i w := by
  have hv : (sgStep s i).getD 0 = 0 := by
    have hH := sgH_is (bt s i)
    repeat (first | rw [if_pos (by omega)] at hH | rw [if_neg (by omega)] at hH)
    rw [sgStep_getD, hH]
    try simp only [sgR_0, sgR_1, sgR_2, sgR_3, reduceCtorEq, if_false, if_true, show i + 1 + 1 = i + 2 by omega, show i + 2 + 1 = i + 3 by omega]
    (try repeat (first | rw [if_pos (by omega)] | rw [if_neg (by omega)]))
    all_goals first | rfl | ((repeat' split) <;> first | rfl | omega)
  unfold SignSaid
  rw [hv]
  clear hv
  go_enter Try.func77, Try.ntmps77
  go_wp2_with (first | (go_at_call 97; (with_reducible refine (in_yes _ _ _ _ _ (by omega)).mono ?_); rintro e w' ⟨rfl, ⟨nd, rfl⟩⟩) | (go_at_call 97; (with_reducible refine (in_no _ _ _ _ _ (by omega)).mono ?_); rintro e w' ⟨rfl, ⟨nd, rfl⟩⟩))
  go_ret
  exact ⟨rfl, by repeat (first | exact Drawn0.refl _ | apply Drawn0.step)⟩
theorem bonsairef04_sign.calls (a0 : ByteArray) (a1 : Int) (r : Int) (w : World) (h : bonsairef04_sign.f a0 a1 = some r) :
    Calls Try.prog 77 #[.string a0, .int .i64 a1] w fun e w' => e = .returned (.int .i64 r) ∧ Drawn0 w w' := by
  unfold bonsairef04_sign.f at h
  split at h
  · rename_i hc
    obtain ⟨h0, hi, hs⟩ := hc
    cases h
    have hr := (bt_range a0 a1).1
    have q1 := fun lo hi => (show (a1 + 1 < (a0.size : Int) ∧ lo ≤ bt a0 (a1 + 1) ∧ bt a0 (a1 + 1) ≤ hi) ∨ ((a0.size : Int) ≤ a1 + 1 ∨ bt a0 (a1 + 1) < lo ∨ hi < bt a0 (a1 + 1)) by omega)
    have q2 : (a1 + 2 < (a0.size : Int) ∧ 128 ≤ bt a0 (a1 + 2) ∧ bt a0 (a1 + 2) ≤ 191) ∨ ((a0.size : Int) ≤ a1 + 2 ∨ bt a0 (a1 + 2) < 128 ∨ 191 < bt a0 (a1 + 2)) := by omega
    have q3 : (a1 + 3 < (a0.size : Int) ∧ 128 ≤ bt a0 (a1 + 3) ∧ bt a0 (a1 + 3) ≤ 191) ∨ ((a0.size : Int) ≤ a1 + 3 ∨ bt a0 (a1 + 3) < 128 ∨ 191 < bt a0 (a1 + 3)) := by omega
    have cls : bt a0 a1 < 128 ∨ (128 ≤ bt a0 a1 ∧ bt a0 a1 < 194 ∨ 245 ≤ bt a0 a1) ∨ (194 ≤ bt a0 a1 ∧ bt a0 a1 < 224) ∨ bt a0 a1 = 224 ∨ (225 ≤ bt a0 a1 ∧ bt a0 a1 < 237) ∨ bt a0 a1 = 237 ∨ (238 ≤ bt a0 a1 ∧ bt a0 a1 < 240) ∨ bt a0 a1 = 240 ∨ (241 ≤ bt a0 a1 ∧ bt a0 a1 < 244) ∨ bt a0 a1 = 244 := by omega
    show SignSaid a0 a1 w
    rcases cls with c | c | c | c | c | c | c | c | c | c
    · exact sign_asc0 a0 a1 w h0 hi hs hr c
    · rcases q2 with b | b
      · rcases q3 with d | d
        · exact sign_bad2 a0 a1 w h0 hi hs hr c b d
        · exact sign_bad1 a0 a1 w h0 hi hs hr c b d
      · exact sign_bad0 a0 a1 w h0 hi hs hr c b
    · rcases q1 128 191 with e | e
      · exact sign_two0 a0 a1 w h0 hi hs hr c e
      · rcases q2 with b | b
        · rcases q3 with d | d
          · exact sign_two3 a0 a1 w h0 hi hs hr c e b d
          · exact sign_two2 a0 a1 w h0 hi hs hr c e b d
        · exact sign_two1 a0 a1 w h0 hi hs hr c e b
    · rcases q2 with b | b
      · rcases q1 160 191 with e | e
        · exact sign_e01 a0 a1 w h0 hi hs hr c b e
        · rcases q3 with d | d
          · exact sign_e03 a0 a1 w h0 hi hs hr c b e d
          · exact sign_e02 a0 a1 w h0 hi hs hr c b e d
      · exact sign_e00 a0 a1 w h0 hi hs hr c b
    · rcases q2 with b | b
      · rcases q1 128 191 with e | e
        · exact sign_e11 a0 a1 w h0 hi hs hr c b e
        · rcases q3 with d | d
          · exact sign_e13 a0 a1 w h0 hi hs hr c b e d
          · exact sign_e12 a0 a1 w h0 hi hs hr c b e d
      · exact sign_e10 a0 a1 w h0 hi hs hr c b
    · rcases q2 with b | b
      · rcases q1 128 159 with e | e
        · exact sign_ed1 a0 a1 w h0 hi hs hr c b e
        · rcases q3 with d | d
          · exact sign_ed3 a0 a1 w h0 hi hs hr c b e d
          · exact sign_ed2 a0 a1 w h0 hi hs hr c b e d
      · exact sign_ed0 a0 a1 w h0 hi hs hr c b
    · rcases q2 with b | b
      · rcases q1 128 191 with e | e
        · exact sign_ee1 a0 a1 w h0 hi hs hr c b e
        · rcases q3 with d | d
          · exact sign_ee3 a0 a1 w h0 hi hs hr c b e d
          · exact sign_ee2 a0 a1 w h0 hi hs hr c b e d
      · exact sign_ee0 a0 a1 w h0 hi hs hr c b
    · rcases q2 with b | b
      · rcases q3 with d | d
        · rcases q1 144 191 with e | e
          · exact sign_f02 a0 a1 w h0 hi hs hr c b d e
          · exact sign_f03 a0 a1 w h0 hi hs hr c b d e
        · exact sign_f01 a0 a1 w h0 hi hs hr c b d
      · exact sign_f00 a0 a1 w h0 hi hs hr c b
    · rcases q2 with b | b
      · rcases q3 with d | d
        · rcases q1 128 191 with e | e
          · exact sign_f12 a0 a1 w h0 hi hs hr c b d e
          · exact sign_f13 a0 a1 w h0 hi hs hr c b d e
        · exact sign_f11 a0 a1 w h0 hi hs hr c b d
      · exact sign_f10 a0 a1 w h0 hi hs hr c b
    · rcases q2 with b | b
      · rcases q3 with d | d
        · rcases q1 128 143 with e | e
          · exact sign_f42 a0 a1 w h0 hi hs hr c b d e
          · exact sign_f43 a0 a1 w h0 hi hs hr c b d e
        · exact sign_f41 a0 a1 w h0 hi hs hr c b d
      · exact sign_f40 a0 a1 w h0 hi hs hr c b
  · cases h
def bonsairef04_First.l0 : Nat → ByteArray → Int → Option (Int × Bool)
  | 0, _, _ => none
  | k + 1, x0, x4 => if x4 < (x0.size : Int) then ((bonsairef04_sign.f x0 x4).bind fun t164 => (if t164 = 0 then (some (x4, true)) else (bonsairef04_First.l0 k x0 (wrap64 (x4 + t164))))) else (some (0, false))
def bonsairef04_First.f (k : Nat) (a0 : ByteArray) : Option (Int × Bool) := bonsairef04_First.l0 k a0 0
set_option maxHeartbeats 8000000 in
set_option maxRecDepth 100000 in
theorem bonsairef04_First.calls (k : Nat) (a0 : ByteArray) (r1 : Int) (r2 : Bool) (w : World) (h : bonsairef04_First.f k a0 = some (r1, r2)) :
    Calls Try.prog 26 #[.string a0] w fun e w' => e = .returned (.tuple #[.int .i64 r1, .bool r2]) ∧ Drawn0 w w' := by
  have H : (bonsairef04_First.l0 k a0 0) = some (r1, r2) := h
  clear h
  have H' := Aside0.mk H
  clear H
  go_enter Try.func26, Try.ntmps26
  go_wp2
  go_loopg [4] k (fun kq v4 w' => ∃ (x4_1 : Int), v4 = .int .i64 x4_1 ∧ Aside0 (bonsairef04_First.l0 kq a0 x4_1 = some (r1, r2)) ∧ Aside0 (kq ≤ k) ∧ Drawn0 w w')
  case atStart => exact ⟨(0), (by first | rfl | (simp; done) | (simp [*]; done)), H', ⟨Nat.le_refl _⟩, by repeat (first | exact Drawn0.refl _ | apply Drawn0.step)⟩
  case round =>
    clear H'
    obtain ⟨x4_1, rfl, HA, HK1, ⟨m1, rfl⟩⟩ := hrel
    cases gk with
    | zero => exact absurd HA.out (by simp [bonsairef04_First.l0])
    | succ k1 =>
      have H := HA.out
      clear HA
      simp only [bonsairef04_First.l0] at H
      by_cases c2 : x4_1 < (a0.size : Int)
      · rw [if_pos c2] at H
        have c2b0 : decide (x4_1 < (a0.size : Int)) = true := decide_eq_true c2
        clear c2
        replace H := Option.bind_eq_some_iff.mp H
        obtain ⟨t164, A30, H⟩ := H
        replace H : (if t164 = 0 then (some (x4_1, true)) else (bonsairef04_First.l0 k1 a0 (wrap64 (x4_1 + t164)))) = some (r1, r2) := H
        have A3 := Aside0.mk A30
        clear A30
        by_cases c4 : t164 = 0
        · rw [if_pos c4] at H
          have c4b0 : (t164 == 0) = true := beq_iff_eq.mpr c4
          have c4b1 : (t164 != 0) = false := bne_eq_false_iff_eq.mpr c4
          clear c4
          simp only [Option.some.injEq, Prod.mk.injEq] at H
          obtain ⟨rfl, rfl⟩ := H
          go_wp2_with (first | ((with_reducible refine gate_callee (f := 77) rfl ?_); refine goesL_ (some 12) rfl rfl Try.func77 (by kernel_rfl) rfl #[.string a0, .int .i64 x4_1] rfl (by (try simp only [List.map_toArray, List.map_cons, List.map_nil]); first | done | rfl | (simp only [List.length_drop, List.length_take]; rfl)) ?_; (with_reducible refine (bonsairef04_sign.calls a0 x4_1 t164 _ A3.out).mono ?_); rintro e w' ⟨rfl, ⟨nd, rfl⟩⟩; refine ⟨_, rfl, ?_⟩))
          go_ret2
          exact ⟨by first | rfl | (simp; done) | (simp [*]; done), by repeat (first | exact Drawn0.refl _ | apply Drawn0.step)⟩
        · rw [if_neg c4] at H
          have c4b0 : (t164 == 0) = false := beq_eq_false_iff_ne.mpr c4
          have c4b1 : (t164 != 0) = true := bne_iff_ne.mpr c4
          have H' := Aside0.mk H
          clear H
          go_wp2_with (first | ((with_reducible refine gate_callee (f := 77) rfl ?_); refine goesL_ (some 12) rfl rfl Try.func77 (by kernel_rfl) rfl #[.string a0, .int .i64 x4_1] rfl (by (try simp only [List.map_toArray, List.map_cons, List.map_nil]); first | done | rfl | (simp only [List.length_drop, List.length_take]; rfl)) ?_; (with_reducible refine (bonsairef04_sign.calls a0 x4_1 t164 _ A3.out).mono ?_); rintro e w' ⟨rfl, ⟨nd, rfl⟩⟩; refine ⟨_, rfl, ?_⟩))
          go_roundg k1
          case measure => have := HK1.out; omega
          case rel => exact ⟨(wrap64 (x4_1 + t164)), (by first | rfl | (simp; done) | (simp [*]; done)), H', ⟨by have := HK1.out; omega⟩, by repeat (first | exact Drawn0.refl _ | apply Drawn0.step)⟩
      · rw [if_neg c2] at H
        have c2b0 : decide (x4_1 < (a0.size : Int)) = false := decide_eq_false c2
        clear c2
        simp only [Option.some.injEq, Prod.mk.injEq] at H
        obtain ⟨rfl, rfl⟩ := H
        go_wp2
        go_ret2
        exact ⟨by first | rfl | (simp; done) | (simp [*]; done), by repeat (first | exact Drawn0.refl _ | apply Drawn0.step)⟩
def bonsairef04_Valid.f (k : Nat) (a0 : ByteArray) : Option (Bool) := (bonsairef04_First.f k a0).bind fun bt165 => (some (!bt165.2))
set_option maxHeartbeats 8000000 in
set_option maxRecDepth 100000 in
theorem bonsairef04_Valid.calls (k : Nat) (a0 : ByteArray) (r : Bool) (w : World) (h : bonsairef04_Valid.f k a0 = some r) :
    Calls Try.prog 30 #[.string a0] w fun e w' => e = .returned (.bool r) ∧ Drawn0 w w' := by
  have H : ((bonsairef04_First.f k a0).bind fun bt165 => (some (!bt165.2))) = some r := h
  clear h
  replace H := Option.bind_eq_some_iff.mp H
  obtain ⟨⟨t165, t166⟩, A20, H⟩ := H
  replace H : (some (!t166)) = some r := H
  have A2 := Aside0.mk A20
  clear A20
  obtain rfl := Option.some.inj H
  go_enter Try.func30, Try.ntmps30
  go_wp2_with (first | ((with_reducible refine gate_callee (f := 26) rfl ?_); refine goesL_ (some 7) rfl rfl Try.func26 (by kernel_rfl) rfl #[.string a0] rfl (by (try simp only [List.map_toArray, List.map_cons, List.map_nil]); first | done | rfl | (simp only [List.length_drop, List.length_take]; rfl)) ?_; (with_reducible refine (bonsairef04_First.calls k a0 t165 t166 _ A2.out).mono ?_); rintro e w' ⟨rfl, ⟨nd, rfl⟩⟩; refine ⟨_, rfl, ?_⟩))
  go_ret
  exact ⟨by first | rfl | (simp; done) | (simp [*]; done), by repeat (first | exact Drawn0.refl _ | apply Drawn0.step)⟩
end Go.Proofs.Ytbgjoiccehiglaa.Print
end
section
namespace Go.Proofs.Ytbgjoiccehiglaa.Print
open Go.RowKit Go.Proofs.YtbgjoiccehiglaaW.PrintWords Go.Proofs.YtbgjoiccehiglaaW.PrintLast Go.Proofs.YtbgjoiccehiglaaW.PrintMore
attribute [local go_sem] max2_int min2_int max_two min_two max_three min_three max_four min_four
set_option linter.unusedVariables false
set_option linter.unusedSimpArgs false
mutual
def bonsairef04_Take.j0 : Nat → ByteArray → Int → Int → Bool → Option (ByteArray × Int × Int)
  | 0, _, _, _, _ => none
  | k + 1, x0, x1, x2, x19 => if x19 = true then (some ((⟨#[]⟩ : ByteArray), 0, 1)) else ((bonsairef03_Reader_Num.f k x0 x1 0).bind fun bt197 => (if bt197.2.2.2 = 0 then (if x2 < 0 then (bonsairef04_Take.j1 k bt197.1 true bt197.2.1 bt197.2.2.1 bt197.2.2.2) else (bonsairef04_Take.j1 k bt197.1 (decide (bt197.1 > (IntKind.u64.wrap (x2)))) bt197.2.1 bt197.2.2.1 bt197.2.2.2)) else (some ((⟨#[]⟩ : ByteArray), 0, bt197.2.2.2))))
def bonsairef04_Take.j1 : Nat → Int → Bool → ByteArray → Int → Int → Option (ByteArray × Int × Int)
  | 0, _, _, _, _, _ => none
  | k + 1, x10, x42, x197000, x197001, x197002 => if x42 = true then (some ((⟨#[]⟩ : ByteArray), 0, 10)) else ((bonsairef03_Reader_Left.f x197000 x197001 x197002).bind fun bt201 => (if x10 > (IntKind.u64.wrap (bt201.1)) then (some ((⟨#[]⟩ : ByteArray), 0, 2)) else ((bonsairef03_Reader_Take.f k bt201.2.1 bt201.2.2.1 bt201.2.2.2 (wrap64 (x10))).bind fun bt205 => ((bonsairef04_Valid.f k bt205.1).bind fun t209 => (if t209 = true then (some (bt205.1, bt205.2.2.1, 0)) else (some ((⟨#[]⟩ : ByteArray), 0, 4)))))))
end
def bonsairef04_Take.f (k : Nat) (a0 : ByteArray) (a1 : Int) (a2 : Int) : Option (ByteArray × Int × Int) := if a1 < 0 then (bonsairef04_Take.j0 k a0 a1 a2 true) else (bonsairef04_Take.j0 k a0 a1 a2 (decide (a1 > (a0.size : Int))))
set_option maxHeartbeats 8000000 in
set_option maxRecDepth 100000 in
theorem bonsairef04_Take.calls (k : Nat) (a0 : ByteArray) (a1 : Int) (a2 : Int) (r1 : ByteArray) (r2 : Int) (r3 : Int) (w : World) (h : bonsairef04_Take.f k a0 a1 a2 = some (r1, r2, r3)) :
    Calls Try.prog 36 #[.string a0, .int .i64 a1, .int .i64 a2] w fun e w' => e = .returned (.tuple #[.string r1, .int .i64 r2, .int .i64 r3]) ∧ Below w.heap.size w w' := by
  have hu93 := Try.underlying93
  have HB := Aside0.mk (Below.refl w.heap.size w)
  have H : (if a1 < 0 then (bonsairef04_Take.j0 k a0 a1 a2 true) else (bonsairef04_Take.j0 k a0 a1 a2 (decide (a1 > (a0.size : Int))))) = some (r1, r2, r3) := h
  clear h
  have HC4 := Aside0.mk H
  clear H
  go_enter Try.func36, Try.ntmps36
  go_upto_region 1 with (fail)
  repeat (go_quiet (fail); go_upto_region 1 with (fail))
  go_cut [19] (fun v19 wc => ∃ (kq : Nat) (x19_3 : Bool), v19 = .bool x19_3 ∧ Aside0 (bonsairef04_Take.j0 kq a0 a1 a2 x19_3 = some (r1, r2, r3)) ∧ Aside0 (kq ≤ k) ∧ Aside0 (Below w.heap.size w wc))
  case first =>
    have H := HC4.out
    clear HC4
    by_cases c5 : a1 < 0
    · rw [if_pos c5] at H
      have c5b0 : decide (a1 < 0) = true := decide_eq_true c5
      clear c5
      (first | rw [c5b0] | (simp only [i64_w, i32_w]; rw [c5b0]) | skip)
      have H' := Aside0.mk H
      clear H
      go_wp2
      repeat (go_quiet (fail); try go_wp2)
      go_meet
      case rel => exact ⟨_, (true), (by first | rfl | (simp; done) | (simp [*]; done)), H', ⟨by first | omega | exact Nat.le_refl _⟩, ⟨by repeat (first | (with_reducible first | exact HB.out | apply below_alloc | apply pw_below_drewN | apply below_drew1) | exact HB.out)⟩⟩
    · rw [if_neg c5] at H
      have c5b0 : decide (a1 < 0) = false := decide_eq_false c5
      clear c5
      (first | rw [c5b0] | (simp only [i64_w, i32_w]; rw [c5b0]) | skip)
      have H' := Aside0.mk H
      clear H
      go_wp2
      repeat (go_quiet (fail); try go_wp2)
      go_meet
      case rel => exact ⟨_, (decide (a1 > (a0.size : Int))), (by first | rfl | (simp; done) | (simp [*]; done)), H', ⟨by first | omega | exact Nat.le_refl _⟩, ⟨by repeat (first | (with_reducible first | exact HB.out | apply below_alloc | apply pw_below_drewN | apply below_drew1) | exact HB.out)⟩⟩
  case rest =>
    clear HC4
    try clear p2
    try clear c3
    try clear c5
    try clear c5b0
    obtain ⟨kq, x19_3, rfl, HA, HJ3, HB⟩ := hcut
    cases kq with
    | zero => exact absurd HA.out (by simp [bonsairef04_Take.j0])
    | succ kj3 =>
      have H := HA.out
      clear HA
      simp only [bonsairef04_Take.j0] at H
      by_cases c6 : x19_3 = true
      · subst c6
        have H1 : (some ((⟨#[]⟩ : ByteArray), 0, 1)) = some (r1, r2, r3) := by rw [if_pos rfl] at H; exact H
        clear H
        have H := H1
        clear H1
        simp only [Option.some.injEq, Prod.mk.injEq] at H
        obtain ⟨rfl, rfl, rfl⟩ := H
        go_wp2
        repeat (go_quiet (fail); try go_wp2)
        go_ret3
        exact ⟨by first | rfl | (simp [errW_none, errW_some] <;> rfl) | (simp [*, errW_none, errW_some] <;> rfl), by repeat (first | (with_reducible first | exact HB.out | apply below_alloc | apply pw_below_drewN | apply below_drew1) | exact HB.out)⟩
      · replace c6 := Bool.eq_false_iff.mpr c6
        subst c6
        have H1 : ((bonsairef03_Reader_Num.f kj3 a0 a1 0).bind fun bt197 => (if bt197.2.2.2 = 0 then (if a2 < 0 then (bonsairef04_Take.j1 kj3 bt197.1 true bt197.2.1 bt197.2.2.1 bt197.2.2.2) else (bonsairef04_Take.j1 kj3 bt197.1 (decide (bt197.1 > (IntKind.u64.wrap (a2)))) bt197.2.1 bt197.2.2.1 bt197.2.2.2)) else (some ((⟨#[]⟩ : ByteArray), 0, bt197.2.2.2)))) = some (r1, r2, r3) := by rw [if_neg (show ¬ (false = true) by decide)] at H; exact H
        clear H
        have H := H1
        clear H1
        replace H := Option.bind_eq_some_iff.mp H
        obtain ⟨⟨t197, t198, t199, t200⟩, A70, H⟩ := H
        replace H : (if t200 = 0 then (if a2 < 0 then (bonsairef04_Take.j1 kj3 t197 true t198 t199 t200) else (bonsairef04_Take.j1 kj3 t197 (decide (t197 > (IntKind.u64.wrap (a2)))) t198 t199 t200)) else (some ((⟨#[]⟩ : ByteArray), 0, t200))) = some (r1, r2, r3) := H
        have A7 := Aside0.mk A70
        clear A70
        by_cases c8 : t200 = 0
        · rw [if_pos c8] at H
          have c8b0 : (t200 == 0) = true := beq_iff_eq.mpr c8
          have c8b1 : (t200 != 0) = false := bne_eq_false_iff_eq.mpr c8
          clear c8
          have HC9 := Aside0.mk H
          clear H
          go_upto_region 7 with (first | ((with_reducible refine gate_dst (N := 23) rfl ?_); (try (refine gate_guard (by rfl) ?_; dsimp only)); refine box_event ?hg (N := 23) ?hd (cs := #[.string a0, .int .i64 a1, .int .i64 0]) (t := 93) ?hr ?_; (case hd => rfl); (case hg => rfl); (case hr => first | (go_simp; done) | (go_simp; rfl)); intro gb196 hg w10 hbox hb; have n0_ := Aside0.mk (below_step (by repeat (first | (with_reducible first | exact HB.out | apply below_alloc | apply pw_below_drewN | apply below_drew1) | exact HB.out)) hb); have n1_ := Aside0.mk ((by rw [hg]; exact (below_size (by repeat (first | (with_reducible first | exact HB.out | apply below_alloc | apply pw_below_drewN | apply below_drew1) | exact HB.out))) : w.heap.size ≤ gb196)); have n2_ := Aside0.mk ((by rw [hg]; exact (below_size (by repeat (first | (with_reducible first | exact HB.out | apply below_alloc | apply pw_below_drewN | apply below_drew1) | exact HB.out))) : w.heap.size ≤ gb196)); have n3_ := Aside0.mk ((show IsS93 w w10 gb196 a0 a1 0 from ⟨hbox, (by rw [hg]; exact (below_size (by repeat (first | (with_reducible first | exact HB.out | apply below_alloc | apply pw_below_drewN | apply below_drew1) | exact HB.out))) : w.heap.size ≤ gb196)⟩)); clear HB; have HB := n0_; have GW196 := n1_; have GE196 := n2_; have HI196 := n3_; clear n0_ n1_ n2_ n3_; clear hb hbox hg) | (go_at_call 85; (with_reducible refine (bonsairef03_Reader_Num.calls kj3 gb196 a0 a1 0 t197 t198 t199 t200 w _ ?side1 ?side2 A7.out).mono ?_); (case side1 => repeat (first | (with_reducible first | exact HI196.out | apply IsS93.alloc | apply IsS93.drewN | apply IsS93.drew | apply IsS93.set_0 | apply IsS93.set_1 | apply IsS93.set_2) | exact HI196.out)); (case side2 => repeat (first | (with_reducible first | exact HB.out | apply below_alloc | apply pw_below_drewN | apply below_drew1 | refine below_set ?_ (IsS93.ge HI196.out)) | exact HB.out)); rintro e w11 ⟨rfl, hi, hb, hk⟩; have n0_ := Aside0.mk (hb); have n1_ := Aside0.mk (hi); clear HB; clear HI196; have HB := n0_; have HI196 := n1_; clear n0_ n1_; (try clear hb); (try clear hb2); (try clear hk); (try clear hi); obtain ⟨HGz12, hgz12⟩ := HI196.out; have hcz12_0 := cellS93_0 HGz12; have hcz12_1 := cellS93_1 HGz12; have hcz12_2 := cellS93_2 HGz12; have hfz12_0 := blk_frozen HGz12 0; have hfz12_1 := blk_frozen HGz12 1; have hfz12_2 := blk_frozen HGz12 2; clear HGz12 hgz12))
          repeat (go_quiet (first | ((with_reducible refine gate_dst (N := 23) rfl ?_); (try (refine gate_guard (by rfl) ?_; dsimp only)); refine box_event ?hg (N := 23) ?hd (cs := #[.string a0, .int .i64 a1, .int .i64 0]) (t := 93) ?hr ?_; (case hd => rfl); (case hg => rfl); (case hr => first | (go_simp; done) | (go_simp; rfl)); intro gb196 hg w10 hbox hb; have n0_ := Aside0.mk (below_step (by repeat (first | (with_reducible first | exact HB.out | apply below_alloc | apply pw_below_drewN | apply below_drew1) | exact HB.out)) hb); have n1_ := Aside0.mk ((by rw [hg]; exact (below_size (by repeat (first | (with_reducible first | exact HB.out | apply below_alloc | apply pw_below_drewN | apply below_drew1) | exact HB.out))) : w.heap.size ≤ gb196)); have n2_ := Aside0.mk ((by rw [hg]; exact (below_size (by repeat (first | (with_reducible first | exact HB.out | apply below_alloc | apply pw_below_drewN | apply below_drew1) | exact HB.out))) : w.heap.size ≤ gb196)); have n3_ := Aside0.mk ((show IsS93 w w10 gb196 a0 a1 0 from ⟨hbox, (by rw [hg]; exact (below_size (by repeat (first | (with_reducible first | exact HB.out | apply below_alloc | apply pw_below_drewN | apply below_drew1) | exact HB.out))) : w.heap.size ≤ gb196)⟩)); clear HB; have HB := n0_; have GW196 := n1_; have GE196 := n2_; have HI196 := n3_; clear n0_ n1_ n2_ n3_; clear hb hbox hg) | (go_at_call 85; (with_reducible refine (bonsairef03_Reader_Num.calls kj3 gb196 a0 a1 0 t197 t198 t199 t200 w _ ?side1 ?side2 A7.out).mono ?_); (case side1 => repeat (first | (with_reducible first | exact HI196.out | apply IsS93.alloc | apply IsS93.drewN | apply IsS93.drew | apply IsS93.set_0 | apply IsS93.set_1 | apply IsS93.set_2) | exact HI196.out)); (case side2 => repeat (first | (with_reducible first | exact HB.out | apply below_alloc | apply pw_below_drewN | apply below_drew1 | refine below_set ?_ (IsS93.ge HI196.out)) | exact HB.out)); rintro e w11 ⟨rfl, hi, hb, hk⟩; have n0_ := Aside0.mk (hb); have n1_ := Aside0.mk (hi); clear HB; clear HI196; have HB := n0_; have HI196 := n1_; clear n0_ n1_; (try clear hb); (try clear hb2); (try clear hk); (try clear hi); obtain ⟨HGz12, hgz12⟩ := HI196.out; have hcz12_0 := cellS93_0 HGz12; have hcz12_1 := cellS93_1 HGz12; have hcz12_2 := cellS93_2 HGz12; have hfz12_0 := blk_frozen HGz12 0; have hfz12_1 := blk_frozen HGz12 1; have hfz12_2 := blk_frozen HGz12 2; clear HGz12 hgz12)); go_upto_region 7 with (first | ((with_reducible refine gate_dst (N := 23) rfl ?_); (try (refine gate_guard (by rfl) ?_; dsimp only)); refine box_event ?hg (N := 23) ?hd (cs := #[.string a0, .int .i64 a1, .int .i64 0]) (t := 93) ?hr ?_; (case hd => rfl); (case hg => rfl); (case hr => first | (go_simp; done) | (go_simp; rfl)); intro gb196 hg w10 hbox hb; have n0_ := Aside0.mk (below_step (by repeat (first | (with_reducible first | exact HB.out | apply below_alloc | apply pw_below_drewN | apply below_drew1) | exact HB.out)) hb); have n1_ := Aside0.mk ((by rw [hg]; exact (below_size (by repeat (first | (with_reducible first | exact HB.out | apply below_alloc | apply pw_below_drewN | apply below_drew1) | exact HB.out))) : w.heap.size ≤ gb196)); have n2_ := Aside0.mk ((by rw [hg]; exact (below_size (by repeat (first | (with_reducible first | exact HB.out | apply below_alloc | apply pw_below_drewN | apply below_drew1) | exact HB.out))) : w.heap.size ≤ gb196)); have n3_ := Aside0.mk ((show IsS93 w w10 gb196 a0 a1 0 from ⟨hbox, (by rw [hg]; exact (below_size (by repeat (first | (with_reducible first | exact HB.out | apply below_alloc | apply pw_below_drewN | apply below_drew1) | exact HB.out))) : w.heap.size ≤ gb196)⟩)); clear HB; have HB := n0_; have GW196 := n1_; have GE196 := n2_; have HI196 := n3_; clear n0_ n1_ n2_ n3_; clear hb hbox hg) | (go_at_call 85; (with_reducible refine (bonsairef03_Reader_Num.calls kj3 gb196 a0 a1 0 t197 t198 t199 t200 w _ ?side1 ?side2 A7.out).mono ?_); (case side1 => repeat (first | (with_reducible first | exact HI196.out | apply IsS93.alloc | apply IsS93.drewN | apply IsS93.drew | apply IsS93.set_0 | apply IsS93.set_1 | apply IsS93.set_2) | exact HI196.out)); (case side2 => repeat (first | (with_reducible first | exact HB.out | apply below_alloc | apply pw_below_drewN | apply below_drew1 | refine below_set ?_ (IsS93.ge HI196.out)) | exact HB.out)); rintro e w11 ⟨rfl, hi, hb, hk⟩; have n0_ := Aside0.mk (hb); have n1_ := Aside0.mk (hi); clear HB; clear HI196; have HB := n0_; have HI196 := n1_; clear n0_ n1_; (try clear hb); (try clear hb2); (try clear hk); (try clear hi); obtain ⟨HGz12, hgz12⟩ := HI196.out; have hcz12_0 := cellS93_0 HGz12; have hcz12_1 := cellS93_1 HGz12; have hcz12_2 := cellS93_2 HGz12; have hfz12_0 := blk_frozen HGz12 0; have hfz12_1 := blk_frozen HGz12 1; have hfz12_2 := blk_frozen HGz12 2; clear HGz12 hgz12)))
          (try simp only [Act.put, List.setIfInBounds_toArray, List.set_cons_zero, List.set_cons_succ])
          go_cut [42] (fun v42 wc => ∃ (kq : Nat) (x42_8 : Bool), v42 = .bool x42_8 ∧ Aside0 (bonsairef04_Take.j1 kq t197 x42_8 t198 t199 t200 = some (r1, r2, r3)) ∧ Aside0 (kq ≤ kj3) ∧ Aside0 (IsS93 w wc gb196 t198 t199 t200) ∧ Aside0 (Below w.heap.size w wc))
          case first =>
            have H := HC9.out
            clear HC9
            by_cases c13 : a2 < 0
            · rw [if_pos c13] at H
              have c13b0 : decide (a2 < 0) = true := decide_eq_true c13
              clear c13
              (first | rw [c13b0] | (simp only [i64_w, i32_w]; rw [c13b0]) | skip)
              have H' := Aside0.mk H
              clear H
              go_wp2
              repeat (go_quiet (fail); try go_wp2)
              go_meet
              case rel => exact ⟨_, (true), (by first | rfl | (simp; done) | (simp [*]; done)), H', ⟨by have := HJ3.out; first | omega | exact Nat.le_refl _⟩, ⟨by repeat (first | (with_reducible first | exact HI196.out | apply IsS93.alloc | apply IsS93.drewN | apply IsS93.drew | apply IsS93.set_0 | apply IsS93.set_1 | apply IsS93.set_2) | exact HI196.out)⟩, ⟨by repeat (first | (with_reducible first | exact HB.out | apply below_alloc | apply pw_below_drewN | apply below_drew1 | refine below_set ?_ (IsS93.ge HI196.out)) | exact HB.out)⟩⟩
            · rw [if_neg c13] at H
              have c13b0 : decide (a2 < 0) = false := decide_eq_false c13
              clear c13
              (first | rw [c13b0] | (simp only [i64_w, i32_w]; rw [c13b0]) | skip)
              have H' := Aside0.mk H
              clear H
              go_wp2
              repeat (go_quiet (fail); try go_wp2)
              go_meet
              case rel => exact ⟨_, (decide (t197 > (IntKind.u64.wrap (a2)))), (by first | rfl | (simp; done) | (simp [*]; done)), H', ⟨by have := HJ3.out; first | omega | exact Nat.le_refl _⟩, ⟨by repeat (first | (with_reducible first | exact HI196.out | apply IsS93.alloc | apply IsS93.drewN | apply IsS93.drew | apply IsS93.set_0 | apply IsS93.set_1 | apply IsS93.set_2) | exact HI196.out)⟩, ⟨by repeat (first | (with_reducible first | exact HB.out | apply below_alloc | apply pw_below_drewN | apply below_drew1 | refine below_set ?_ (IsS93.ge HI196.out)) | exact HB.out)⟩⟩
          case rest =>
            clear HC9
            try clear c1
            try clear p2
            try clear c3
            try clear c5
            try clear c5b0
            try clear c6
            try clear c8
            try clear c8b0
            try clear c8b1
            try clear c13
            try clear c13b0
            try clear hcz12_0
            try clear hcz12_1
            try clear hcz12_2
            try clear hfz12_0
            try clear hfz12_1
            try clear hfz12_2
            try clear p2
            obtain ⟨kq, x42_8, rfl, HA, HJ8, HI196, HB⟩ := hcut
            cases kq with
            | zero => exact absurd HA.out (by simp [bonsairef04_Take.j1])
            | succ kj8 =>
              have H := HA.out
              clear HA
              simp only [bonsairef04_Take.j1] at H
              by_cases c14 : x42_8 = true
              · subst c14
                have H1 : (some ((⟨#[]⟩ : ByteArray), 0, 10)) = some (r1, r2, r3) := by rw [if_pos rfl] at H; exact H
                clear H
                have H := H1
                clear H1
                simp only [Option.some.injEq, Prod.mk.injEq] at H
                obtain ⟨rfl, rfl, rfl⟩ := H
                go_wp2
                repeat (go_quiet (fail); try go_wp2)
                go_ret3
                exact ⟨by first | rfl | (simp [errW_none, errW_some] <;> rfl) | (simp [*, errW_none, errW_some] <;> rfl), by repeat (first | (with_reducible first | exact HB.out | apply below_alloc | apply pw_below_drewN | apply below_drew1 | refine below_set ?_ (IsS93.ge HI196.out)) | exact HB.out)⟩
              · replace c14 := Bool.eq_false_iff.mpr c14
                subst c14
                have H1 : ((bonsairef03_Reader_Left.f t198 t199 t200).bind fun bt201 => (if t197 > (IntKind.u64.wrap (bt201.1)) then (some ((⟨#[]⟩ : ByteArray), 0, 2)) else ((bonsairef03_Reader_Take.f kj8 bt201.2.1 bt201.2.2.1 bt201.2.2.2 (wrap64 (t197))).bind fun bt205 => ((bonsairef04_Valid.f kj8 bt205.1).bind fun t209 => (if t209 = true then (some (bt205.1, bt205.2.2.1, 0)) else (some ((⟨#[]⟩ : ByteArray), 0, 4))))))) = some (r1, r2, r3) := by rw [if_neg (show ¬ (false = true) by decide)] at H; exact H
                clear H
                have H := H1
                clear H1
                replace H := Option.bind_eq_some_iff.mp H
                obtain ⟨⟨t201, t202, t203, t204⟩, A150, H⟩ := H
                replace H : (if t197 > (IntKind.u64.wrap (t201)) then (some ((⟨#[]⟩ : ByteArray), 0, 2)) else ((bonsairef03_Reader_Take.f kj8 t202 t203 t204 (wrap64 (t197))).bind fun bt205 => ((bonsairef04_Valid.f kj8 bt205.1).bind fun t209 => (if t209 = true then (some (bt205.1, bt205.2.2.1, 0)) else (some ((⟨#[]⟩ : ByteArray), 0, 4)))))) = some (r1, r2, r3) := H
                have A15 := Aside0.mk A150
                clear A150
                by_cases c16 : t197 > (IntKind.u64.wrap (t201))
                · rw [if_pos c16] at H
                  have c16b0 : decide ((IntKind.u64.wrap (t201)) < t197) = true := decide_eq_true c16
                  clear c16
                  simp only [Option.some.injEq, Prod.mk.injEq] at H
                  obtain ⟨rfl, rfl, rfl⟩ := H
                  go_wp2_with (first | (go_at_call 86; (with_reducible refine (bonsairef03_Reader_Left.calls gb196 t198 t199 t200 t201 t202 t203 t204 w _ ?side1 ?side2 A15.out).mono ?_); (case side1 => repeat (first | (with_reducible first | exact HI196.out | apply IsS93.alloc | apply IsS93.drewN | apply IsS93.drew | apply IsS93.set_0 | apply IsS93.set_1 | apply IsS93.set_2) | exact HI196.out)); (case side2 => repeat (first | (with_reducible first | exact HB.out | apply below_alloc | apply pw_below_drewN | apply below_drew1 | refine below_set ?_ (IsS93.ge HI196.out)) | exact HB.out)); rintro e w17 ⟨rfl, hi, hb, hk⟩; have n0_ := Aside0.mk (hb); have n1_ := Aside0.mk (hi); clear HB; clear HI196; have HB := n0_; have HI196 := n1_; clear n0_ n1_; (try clear hb); (try clear hb2); (try clear hk); (try clear hi)))
                  repeat (go_quiet (first | (go_at_call 86; (with_reducible refine (bonsairef03_Reader_Left.calls gb196 t198 t199 t200 t201 t202 t203 t204 w _ ?side1 ?side2 A15.out).mono ?_); (case side1 => repeat (first | (with_reducible first | exact HI196.out | apply IsS93.alloc | apply IsS93.drewN | apply IsS93.drew | apply IsS93.set_0 | apply IsS93.set_1 | apply IsS93.set_2) | exact HI196.out)); (case side2 => repeat (first | (with_reducible first | exact HB.out | apply below_alloc | apply pw_below_drewN | apply below_drew1 | refine below_set ?_ (IsS93.ge HI196.out)) | exact HB.out)); rintro e w17 ⟨rfl, hi, hb, hk⟩; have n0_ := Aside0.mk (hb); have n1_ := Aside0.mk (hi); clear HB; clear HI196; have HB := n0_; have HI196 := n1_; clear n0_ n1_; (try clear hb); (try clear hb2); (try clear hk); (try clear hi))); try go_wp2_with (first | (go_at_call 86; (with_reducible refine (bonsairef03_Reader_Left.calls gb196 t198 t199 t200 t201 t202 t203 t204 w _ ?side1 ?side2 A15.out).mono ?_); (case side1 => repeat (first | (with_reducible first | exact HI196.out | apply IsS93.alloc | apply IsS93.drewN | apply IsS93.drew | apply IsS93.set_0 | apply IsS93.set_1 | apply IsS93.set_2) | exact HI196.out)); (case side2 => repeat (first | (with_reducible first | exact HB.out | apply below_alloc | apply pw_below_drewN | apply below_drew1 | refine below_set ?_ (IsS93.ge HI196.out)) | exact HB.out)); rintro e w17 ⟨rfl, hi, hb, hk⟩; have n0_ := Aside0.mk (hb); have n1_ := Aside0.mk (hi); clear HB; clear HI196; have HB := n0_; have HI196 := n1_; clear n0_ n1_; (try clear hb); (try clear hb2); (try clear hk); (try clear hi))))
                  go_ret3
                  exact ⟨by first | rfl | (simp [errW_none, errW_some] <;> rfl) | (simp [*, errW_none, errW_some] <;> rfl), by repeat (first | (with_reducible first | exact HB.out | apply below_alloc | apply pw_below_drewN | apply below_drew1 | refine below_set ?_ (IsS93.ge HI196.out)) | exact HB.out)⟩
                · rw [if_neg c16] at H
                  have c16b0 : decide ((IntKind.u64.wrap (t201)) < t197) = false := decide_eq_false c16
                  clear c16
                  replace H := Option.bind_eq_some_iff.mp H
                  obtain ⟨⟨t205, t206, t207, t208⟩, A180, H⟩ := H
                  replace H : ((bonsairef04_Valid.f kj8 t205).bind fun t209 => (if t209 = true then (some (t205, t207, 0)) else (some ((⟨#[]⟩ : ByteArray), 0, 4)))) = some (r1, r2, r3) := H
                  have A18 := Aside0.mk A180
                  clear A180
                  replace H := Option.bind_eq_some_iff.mp H
                  obtain ⟨t209, A190, H⟩ := H
                  replace H : (if t209 = true then (some (t205, t207, 0)) else (some ((⟨#[]⟩ : ByteArray), 0, 4))) = some (r1, r2, r3) := H
                  have A19 := Aside0.mk A190
                  clear A190
                  by_cases c20 : t209 = true
                  · subst c20
                    have H1 : (some (t205, t207, 0)) = some (r1, r2, r3) := by rw [if_pos rfl] at H; exact H
                    clear H
                    have H := H1
                    clear H1
                    simp only [Option.some.injEq, Prod.mk.injEq] at H
                    obtain ⟨rfl, rfl, rfl⟩ := H
                    go_wp2_with (first | (go_at_call 86; (with_reducible refine (bonsairef03_Reader_Left.calls gb196 t198 t199 t200 t201 t202 t203 t204 w _ ?side1 ?side2 A15.out).mono ?_); (case side1 => repeat (first | (with_reducible first | exact HI196.out | apply IsS93.alloc | apply IsS93.drewN | apply IsS93.drew | apply IsS93.set_0 | apply IsS93.set_1 | apply IsS93.set_2) | exact HI196.out)); (case side2 => repeat (first | (with_reducible first | exact HB.out | apply below_alloc | apply pw_below_drewN | apply below_drew1 | refine below_set ?_ (IsS93.ge HI196.out)) | exact HB.out)); rintro e w21 ⟨rfl, hi, hb, hk⟩; have n0_ := Aside0.mk (hb); have n1_ := Aside0.mk (hi); clear HB; clear HI196; have HB := n0_; have HI196 := n1_; clear n0_ n1_; (try clear hb); (try clear hb2); (try clear hk); (try clear hi)) | (go_at_call 87; (with_reducible refine (bonsairef03_Reader_Take.calls kj8 gb196 t202 t203 t204 (wrap64 (t197)) t205 t206 t207 t208 w _ ?side1 ?side2 A18.out).mono ?_); (case side1 => repeat (first | (with_reducible first | exact HI196.out | apply IsS93.alloc | apply IsS93.drewN | apply IsS93.drew | apply IsS93.set_0 | apply IsS93.set_1 | apply IsS93.set_2) | exact HI196.out)); (case side2 => repeat (first | (with_reducible first | exact HB.out | apply below_alloc | apply pw_below_drewN | apply below_drew1 | refine below_set ?_ (IsS93.ge HI196.out)) | exact HB.out)); rintro e w22 ⟨rfl, hi, hb, hk⟩; have n0_ := Aside0.mk (hb); have n1_ := Aside0.mk (hi); clear HB; clear HI196; have HB := n0_; have HI196 := n1_; clear n0_ n1_; (try clear hb); (try clear hb2); (try clear hk); (try clear hi)) | (go_at_call 30; (with_reducible refine (bonsairef04_Valid.calls kj8 t205 true _ A19.out).mono ?_); rintro e w' ⟨rfl, ⟨nd, rfl⟩⟩; (try first | exact ⟨rfl, _, World.drewN_drewN _ _ _⟩ | exact ⟨rfl, _, Eq.trans (World.drewN_drewN _ _ _) (congrArg (World.drewN _) (Nat.add_assoc _ _ _))⟩); obtain ⟨HGz23, hgz23⟩ := HI196.out; have hcz23_0 := cellS93_0 HGz23; have hcz23_1 := cellS93_1 HGz23; have hcz23_2 := cellS93_2 HGz23; have hfz23_0 := blk_frozen HGz23 0; have hfz23_1 := blk_frozen HGz23 1; have hfz23_2 := blk_frozen HGz23 2; clear HGz23 hgz23))
                    repeat (go_quiet (first | (go_at_call 86; (with_reducible refine (bonsairef03_Reader_Left.calls gb196 t198 t199 t200 t201 t202 t203 t204 w _ ?side1 ?side2 A15.out).mono ?_); (case side1 => repeat (first | (with_reducible first | exact HI196.out | apply IsS93.alloc | apply IsS93.drewN | apply IsS93.drew | apply IsS93.set_0 | apply IsS93.set_1 | apply IsS93.set_2) | exact HI196.out)); (case side2 => repeat (first | (with_reducible first | exact HB.out | apply below_alloc | apply pw_below_drewN | apply below_drew1 | refine below_set ?_ (IsS93.ge HI196.out)) | exact HB.out)); rintro e w21 ⟨rfl, hi, hb, hk⟩; have n0_ := Aside0.mk (hb); have n1_ := Aside0.mk (hi); clear HB; clear HI196; have HB := n0_; have HI196 := n1_; clear n0_ n1_; (try clear hb); (try clear hb2); (try clear hk); (try clear hi)) | (go_at_call 87; (with_reducible refine (bonsairef03_Reader_Take.calls kj8 gb196 t202 t203 t204 (wrap64 (t197)) t205 t206 t207 t208 w _ ?side1 ?side2 A18.out).mono ?_); (case side1 => repeat (first | (with_reducible first | exact HI196.out | apply IsS93.alloc | apply IsS93.drewN | apply IsS93.drew | apply IsS93.set_0 | apply IsS93.set_1 | apply IsS93.set_2) | exact HI196.out)); (case side2 => repeat (first | (with_reducible first | exact HB.out | apply below_alloc | apply pw_below_drewN | apply below_drew1 | refine below_set ?_ (IsS93.ge HI196.out)) | exact HB.out)); rintro e w22 ⟨rfl, hi, hb, hk⟩; have n0_ := Aside0.mk (hb); have n1_ := Aside0.mk (hi); clear HB; clear HI196; have HB := n0_; have HI196 := n1_; clear n0_ n1_; (try clear hb); (try clear hb2); (try clear hk); (try clear hi)) | (go_at_call 30; (with_reducible refine (bonsairef04_Valid.calls kj8 t205 true _ A19.out).mono ?_); rintro e w' ⟨rfl, ⟨nd, rfl⟩⟩; (try first | exact ⟨rfl, _, World.drewN_drewN _ _ _⟩ | exact ⟨rfl, _, Eq.trans (World.drewN_drewN _ _ _) (congrArg (World.drewN _) (Nat.add_assoc _ _ _))⟩); obtain ⟨HGz23, hgz23⟩ := HI196.out; have hcz23_0 := cellS93_0 HGz23; have hcz23_1 := cellS93_1 HGz23; have hcz23_2 := cellS93_2 HGz23; have hfz23_0 := blk_frozen HGz23 0; have hfz23_1 := blk_frozen HGz23 1; have hfz23_2 := blk_frozen HGz23 2; clear HGz23 hgz23)); try go_wp2_with (first | (go_at_call 86; (with_reducible refine (bonsairef03_Reader_Left.calls gb196 t198 t199 t200 t201 t202 t203 t204 w _ ?side1 ?side2 A15.out).mono ?_); (case side1 => repeat (first | (with_reducible first | exact HI196.out | apply IsS93.alloc | apply IsS93.drewN | apply IsS93.drew | apply IsS93.set_0 | apply IsS93.set_1 | apply IsS93.set_2) | exact HI196.out)); (case side2 => repeat (first | (with_reducible first | exact HB.out | apply below_alloc | apply pw_below_drewN | apply below_drew1 | refine below_set ?_ (IsS93.ge HI196.out)) | exact HB.out)); rintro e w21 ⟨rfl, hi, hb, hk⟩; have n0_ := Aside0.mk (hb); have n1_ := Aside0.mk (hi); clear HB; clear HI196; have HB := n0_; have HI196 := n1_; clear n0_ n1_; (try clear hb); (try clear hb2); (try clear hk); (try clear hi)) | (go_at_call 87; (with_reducible refine (bonsairef03_Reader_Take.calls kj8 gb196 t202 t203 t204 (wrap64 (t197)) t205 t206 t207 t208 w _ ?side1 ?side2 A18.out).mono ?_); (case side1 => repeat (first | (with_reducible first | exact HI196.out | apply IsS93.alloc | apply IsS93.drewN | apply IsS93.drew | apply IsS93.set_0 | apply IsS93.set_1 | apply IsS93.set_2) | exact HI196.out)); (case side2 => repeat (first | (with_reducible first | exact HB.out | apply below_alloc | apply pw_below_drewN | apply below_drew1 | refine below_set ?_ (IsS93.ge HI196.out)) | exact HB.out)); rintro e w22 ⟨rfl, hi, hb, hk⟩; have n0_ := Aside0.mk (hb); have n1_ := Aside0.mk (hi); clear HB; clear HI196; have HB := n0_; have HI196 := n1_; clear n0_ n1_; (try clear hb); (try clear hb2); (try clear hk); (try clear hi)) | (go_at_call 30; (with_reducible refine (bonsairef04_Valid.calls kj8 t205 true _ A19.out).mono ?_); rintro e w' ⟨rfl, ⟨nd, rfl⟩⟩; (try first | exact ⟨rfl, _, World.drewN_drewN _ _ _⟩ | exact ⟨rfl, _, Eq.trans (World.drewN_drewN _ _ _) (congrArg (World.drewN _) (Nat.add_assoc _ _ _))⟩); obtain ⟨HGz23, hgz23⟩ := HI196.out; have hcz23_0 := cellS93_0 HGz23; have hcz23_1 := cellS93_1 HGz23; have hcz23_2 := cellS93_2 HGz23; have hfz23_0 := blk_frozen HGz23 0; have hfz23_1 := blk_frozen HGz23 1; have hfz23_2 := blk_frozen HGz23 2; clear HGz23 hgz23)))
                    go_ret3
                    exact ⟨by first | rfl | (simp [errW_none, errW_some] <;> rfl) | (simp [*, errW_none, errW_some] <;> rfl), by repeat (first | (with_reducible first | exact HB.out | apply below_alloc | apply pw_below_drewN | apply below_drew1 | refine below_set ?_ (IsS93.ge HI196.out)) | exact HB.out)⟩
                  · replace c20 := Bool.eq_false_iff.mpr c20
                    subst c20
                    have H1 : (some ((⟨#[]⟩ : ByteArray), 0, 4)) = some (r1, r2, r3) := by rw [if_neg (show ¬ (false = true) by decide)] at H; exact H
                    clear H
                    have H := H1
                    clear H1
                    simp only [Option.some.injEq, Prod.mk.injEq] at H
                    obtain ⟨rfl, rfl, rfl⟩ := H
                    go_wp2_with (first | (go_at_call 86; (with_reducible refine (bonsairef03_Reader_Left.calls gb196 t198 t199 t200 t201 t202 t203 t204 w _ ?side1 ?side2 A15.out).mono ?_); (case side1 => repeat (first | (with_reducible first | exact HI196.out | apply IsS93.alloc | apply IsS93.drewN | apply IsS93.drew | apply IsS93.set_0 | apply IsS93.set_1 | apply IsS93.set_2) | exact HI196.out)); (case side2 => repeat (first | (with_reducible first | exact HB.out | apply below_alloc | apply pw_below_drewN | apply below_drew1 | refine below_set ?_ (IsS93.ge HI196.out)) | exact HB.out)); rintro e w24 ⟨rfl, hi, hb, hk⟩; have n0_ := Aside0.mk (hb); have n1_ := Aside0.mk (hi); clear HB; clear HI196; have HB := n0_; have HI196 := n1_; clear n0_ n1_; (try clear hb); (try clear hb2); (try clear hk); (try clear hi)) | (go_at_call 87; (with_reducible refine (bonsairef03_Reader_Take.calls kj8 gb196 t202 t203 t204 (wrap64 (t197)) t205 t206 t207 t208 w _ ?side1 ?side2 A18.out).mono ?_); (case side1 => repeat (first | (with_reducible first | exact HI196.out | apply IsS93.alloc | apply IsS93.drewN | apply IsS93.drew | apply IsS93.set_0 | apply IsS93.set_1 | apply IsS93.set_2) | exact HI196.out)); (case side2 => repeat (first | (with_reducible first | exact HB.out | apply below_alloc | apply pw_below_drewN | apply below_drew1 | refine below_set ?_ (IsS93.ge HI196.out)) | exact HB.out)); rintro e w25 ⟨rfl, hi, hb, hk⟩; have n0_ := Aside0.mk (hb); have n1_ := Aside0.mk (hi); clear HB; clear HI196; have HB := n0_; have HI196 := n1_; clear n0_ n1_; (try clear hb); (try clear hb2); (try clear hk); (try clear hi)) | (go_at_call 30; (with_reducible refine (bonsairef04_Valid.calls kj8 t205 false _ A19.out).mono ?_); rintro e w' ⟨rfl, ⟨nd, rfl⟩⟩; (try first | exact ⟨rfl, _, World.drewN_drewN _ _ _⟩ | exact ⟨rfl, _, Eq.trans (World.drewN_drewN _ _ _) (congrArg (World.drewN _) (Nat.add_assoc _ _ _))⟩)))
                    repeat (go_quiet (first | (go_at_call 86; (with_reducible refine (bonsairef03_Reader_Left.calls gb196 t198 t199 t200 t201 t202 t203 t204 w _ ?side1 ?side2 A15.out).mono ?_); (case side1 => repeat (first | (with_reducible first | exact HI196.out | apply IsS93.alloc | apply IsS93.drewN | apply IsS93.drew | apply IsS93.set_0 | apply IsS93.set_1 | apply IsS93.set_2) | exact HI196.out)); (case side2 => repeat (first | (with_reducible first | exact HB.out | apply below_alloc | apply pw_below_drewN | apply below_drew1 | refine below_set ?_ (IsS93.ge HI196.out)) | exact HB.out)); rintro e w24 ⟨rfl, hi, hb, hk⟩; have n0_ := Aside0.mk (hb); have n1_ := Aside0.mk (hi); clear HB; clear HI196; have HB := n0_; have HI196 := n1_; clear n0_ n1_; (try clear hb); (try clear hb2); (try clear hk); (try clear hi)) | (go_at_call 87; (with_reducible refine (bonsairef03_Reader_Take.calls kj8 gb196 t202 t203 t204 (wrap64 (t197)) t205 t206 t207 t208 w _ ?side1 ?side2 A18.out).mono ?_); (case side1 => repeat (first | (with_reducible first | exact HI196.out | apply IsS93.alloc | apply IsS93.drewN | apply IsS93.drew | apply IsS93.set_0 | apply IsS93.set_1 | apply IsS93.set_2) | exact HI196.out)); (case side2 => repeat (first | (with_reducible first | exact HB.out | apply below_alloc | apply pw_below_drewN | apply below_drew1 | refine below_set ?_ (IsS93.ge HI196.out)) | exact HB.out)); rintro e w25 ⟨rfl, hi, hb, hk⟩; have n0_ := Aside0.mk (hb); have n1_ := Aside0.mk (hi); clear HB; clear HI196; have HB := n0_; have HI196 := n1_; clear n0_ n1_; (try clear hb); (try clear hb2); (try clear hk); (try clear hi)) | (go_at_call 30; (with_reducible refine (bonsairef04_Valid.calls kj8 t205 false _ A19.out).mono ?_); rintro e w' ⟨rfl, ⟨nd, rfl⟩⟩; (try first | exact ⟨rfl, _, World.drewN_drewN _ _ _⟩ | exact ⟨rfl, _, Eq.trans (World.drewN_drewN _ _ _) (congrArg (World.drewN _) (Nat.add_assoc _ _ _))⟩))); try go_wp2_with (first | (go_at_call 86; (with_reducible refine (bonsairef03_Reader_Left.calls gb196 t198 t199 t200 t201 t202 t203 t204 w _ ?side1 ?side2 A15.out).mono ?_); (case side1 => repeat (first | (with_reducible first | exact HI196.out | apply IsS93.alloc | apply IsS93.drewN | apply IsS93.drew | apply IsS93.set_0 | apply IsS93.set_1 | apply IsS93.set_2) | exact HI196.out)); (case side2 => repeat (first | (with_reducible first | exact HB.out | apply below_alloc | apply pw_below_drewN | apply below_drew1 | refine below_set ?_ (IsS93.ge HI196.out)) | exact HB.out)); rintro e w24 ⟨rfl, hi, hb, hk⟩; have n0_ := Aside0.mk (hb); have n1_ := Aside0.mk (hi); clear HB; clear HI196; have HB := n0_; have HI196 := n1_; clear n0_ n1_; (try clear hb); (try clear hb2); (try clear hk); (try clear hi)) | (go_at_call 87; (with_reducible refine (bonsairef03_Reader_Take.calls kj8 gb196 t202 t203 t204 (wrap64 (t197)) t205 t206 t207 t208 w _ ?side1 ?side2 A18.out).mono ?_); (case side1 => repeat (first | (with_reducible first | exact HI196.out | apply IsS93.alloc | apply IsS93.drewN | apply IsS93.drew | apply IsS93.set_0 | apply IsS93.set_1 | apply IsS93.set_2) | exact HI196.out)); (case side2 => repeat (first | (with_reducible first | exact HB.out | apply below_alloc | apply pw_below_drewN | apply below_drew1 | refine below_set ?_ (IsS93.ge HI196.out)) | exact HB.out)); rintro e w25 ⟨rfl, hi, hb, hk⟩; have n0_ := Aside0.mk (hb); have n1_ := Aside0.mk (hi); clear HB; clear HI196; have HB := n0_; have HI196 := n1_; clear n0_ n1_; (try clear hb); (try clear hb2); (try clear hk); (try clear hi)) | (go_at_call 30; (with_reducible refine (bonsairef04_Valid.calls kj8 t205 false _ A19.out).mono ?_); rintro e w' ⟨rfl, ⟨nd, rfl⟩⟩; (try first | exact ⟨rfl, _, World.drewN_drewN _ _ _⟩ | exact ⟨rfl, _, Eq.trans (World.drewN_drewN _ _ _) (congrArg (World.drewN _) (Nat.add_assoc _ _ _))⟩))))
                    go_ret3
                    exact ⟨by first | rfl | (simp [errW_none, errW_some] <;> rfl) | (simp [*, errW_none, errW_some] <;> rfl), by repeat (first | (with_reducible first | exact HB.out | apply below_alloc | apply pw_below_drewN | apply below_drew1 | refine below_set ?_ (IsS93.ge HI196.out)) | exact HB.out)⟩
        · rw [if_neg c8] at H
          have c8b0 : (t200 == 0) = false := beq_eq_false_iff_ne.mpr c8
          have c8b1 : (t200 != 0) = true := bne_iff_ne.mpr c8
          simp only [Option.some.injEq, Prod.mk.injEq] at H
          obtain ⟨rfl, rfl, rfl⟩ := H
          go_wp2_with (first | ((with_reducible refine gate_dst (N := 23) rfl ?_); (try (refine gate_guard (by rfl) ?_; dsimp only)); refine box_event ?hg (N := 23) ?hd (cs := #[.string a0, .int .i64 a1, .int .i64 0]) (t := 93) ?hr ?_; (case hd => rfl); (case hg => rfl); (case hr => first | (go_simp; done) | (go_simp; rfl)); intro gb196 hg w26 hbox hb; have n0_ := Aside0.mk (below_step (by repeat (first | (with_reducible first | exact HB.out | apply below_alloc | apply pw_below_drewN | apply below_drew1) | exact HB.out)) hb); have n1_ := Aside0.mk ((by rw [hg]; exact (below_size (by repeat (first | (with_reducible first | exact HB.out | apply below_alloc | apply pw_below_drewN | apply below_drew1) | exact HB.out))) : w.heap.size ≤ gb196)); have n2_ := Aside0.mk ((by rw [hg]; exact (below_size (by repeat (first | (with_reducible first | exact HB.out | apply below_alloc | apply pw_below_drewN | apply below_drew1) | exact HB.out))) : w.heap.size ≤ gb196)); have n3_ := Aside0.mk ((show IsS93 w w26 gb196 a0 a1 0 from ⟨hbox, (by rw [hg]; exact (below_size (by repeat (first | (with_reducible first | exact HB.out | apply below_alloc | apply pw_below_drewN | apply below_drew1) | exact HB.out))) : w.heap.size ≤ gb196)⟩)); clear HB; have HB := n0_; have GW196 := n1_; have GE196 := n2_; have HI196 := n3_; clear n0_ n1_ n2_ n3_; clear hb hbox hg) | (go_at_call 85; (with_reducible refine (bonsairef03_Reader_Num.calls kj3 gb196 a0 a1 0 t197 t198 t199 t200 w _ ?side1 ?side2 A7.out).mono ?_); (case side1 => repeat (first | (with_reducible first | exact HI196.out | apply IsS93.alloc | apply IsS93.drewN | apply IsS93.drew | apply IsS93.set_0 | apply IsS93.set_1 | apply IsS93.set_2) | exact HI196.out)); (case side2 => repeat (first | (with_reducible first | exact HB.out | apply below_alloc | apply pw_below_drewN | apply below_drew1 | refine below_set ?_ (IsS93.ge HI196.out)) | exact HB.out)); rintro e w27 ⟨rfl, hi, hb, hk⟩; have n0_ := Aside0.mk (hb); have n1_ := Aside0.mk (hi); clear HB; clear HI196; have HB := n0_; have HI196 := n1_; clear n0_ n1_; (try clear hb); (try clear hb2); (try clear hk); (try clear hi); obtain ⟨HGz28, hgz28⟩ := HI196.out; have hcz28_0 := cellS93_0 HGz28; have hcz28_1 := cellS93_1 HGz28; have hcz28_2 := cellS93_2 HGz28; have hfz28_0 := blk_frozen HGz28 0; have hfz28_1 := blk_frozen HGz28 1; have hfz28_2 := blk_frozen HGz28 2; clear HGz28 hgz28))
          repeat (go_quiet (first | ((with_reducible refine gate_dst (N := 23) rfl ?_); (try (refine gate_guard (by rfl) ?_; dsimp only)); refine box_event ?hg (N := 23) ?hd (cs := #[.string a0, .int .i64 a1, .int .i64 0]) (t := 93) ?hr ?_; (case hd => rfl); (case hg => rfl); (case hr => first | (go_simp; done) | (go_simp; rfl)); intro gb196 hg w26 hbox hb; have n0_ := Aside0.mk (below_step (by repeat (first | (with_reducible first | exact HB.out | apply below_alloc | apply pw_below_drewN | apply below_drew1) | exact HB.out)) hb); have n1_ := Aside0.mk ((by rw [hg]; exact (below_size (by repeat (first | (with_reducible first | exact HB.out | apply below_alloc | apply pw_below_drewN | apply below_drew1) | exact HB.out))) : w.heap.size ≤ gb196)); have n2_ := Aside0.mk ((by rw [hg]; exact (below_size (by repeat (first | (with_reducible first | exact HB.out | apply below_alloc | apply pw_below_drewN | apply below_drew1) | exact HB.out))) : w.heap.size ≤ gb196)); have n3_ := Aside0.mk ((show IsS93 w w26 gb196 a0 a1 0 from ⟨hbox, (by rw [hg]; exact (below_size (by repeat (first | (with_reducible first | exact HB.out | apply below_alloc | apply pw_below_drewN | apply below_drew1) | exact HB.out))) : w.heap.size ≤ gb196)⟩)); clear HB; have HB := n0_; have GW196 := n1_; have GE196 := n2_; have HI196 := n3_; clear n0_ n1_ n2_ n3_; clear hb hbox hg) | (go_at_call 85; (with_reducible refine (bonsairef03_Reader_Num.calls kj3 gb196 a0 a1 0 t197 t198 t199 t200 w _ ?side1 ?side2 A7.out).mono ?_); (case side1 => repeat (first | (with_reducible first | exact HI196.out | apply IsS93.alloc | apply IsS93.drewN | apply IsS93.drew | apply IsS93.set_0 | apply IsS93.set_1 | apply IsS93.set_2) | exact HI196.out)); (case side2 => repeat (first | (with_reducible first | exact HB.out | apply below_alloc | apply pw_below_drewN | apply below_drew1 | refine below_set ?_ (IsS93.ge HI196.out)) | exact HB.out)); rintro e w27 ⟨rfl, hi, hb, hk⟩; have n0_ := Aside0.mk (hb); have n1_ := Aside0.mk (hi); clear HB; clear HI196; have HB := n0_; have HI196 := n1_; clear n0_ n1_; (try clear hb); (try clear hb2); (try clear hk); (try clear hi); obtain ⟨HGz28, hgz28⟩ := HI196.out; have hcz28_0 := cellS93_0 HGz28; have hcz28_1 := cellS93_1 HGz28; have hcz28_2 := cellS93_2 HGz28; have hfz28_0 := blk_frozen HGz28 0; have hfz28_1 := blk_frozen HGz28 1; have hfz28_2 := blk_frozen HGz28 2; clear HGz28 hgz28)); try go_wp2_with (first | ((with_reducible refine gate_dst (N := 23) rfl ?_); (try (refine gate_guard (by rfl) ?_; dsimp only)); refine box_event ?hg (N := 23) ?hd (cs := #[.string a0, .int .i64 a1, .int .i64 0]) (t := 93) ?hr ?_; (case hd => rfl); (case hg => rfl); (case hr => first | (go_simp; done) | (go_simp; rfl)); intro gb196 hg w26 hbox hb; have n0_ := Aside0.mk (below_step (by repeat (first | (with_reducible first | exact HB.out | apply below_alloc | apply pw_below_drewN | apply below_drew1) | exact HB.out)) hb); have n1_ := Aside0.mk ((by rw [hg]; exact (below_size (by repeat (first | (with_reducible first | exact HB.out | apply below_alloc | apply pw_below_drewN | apply below_drew1) | exact HB.out))) : w.heap.size ≤ gb196)); have n2_ := Aside0.mk ((by rw [hg]; exact (below_size (by repeat (first | (with_reducible first | exact HB.out | apply below_alloc | apply pw_below_drewN | apply below_drew1) | exact HB.out))) : w.heap.size ≤ gb196)); have n3_ := Aside0.mk ((show IsS93 w w26 gb196 a0 a1 0 from ⟨hbox, (by rw [hg]; exact (below_size (by repeat (first | (with_reducible first | exact HB.out | apply below_alloc | apply pw_below_drewN | apply below_drew1) | exact HB.out))) : w.heap.size ≤ gb196)⟩)); clear HB; have HB := n0_; have GW196 := n1_; have GE196 := n2_; have HI196 := n3_; clear n0_ n1_ n2_ n3_; clear hb hbox hg) | (go_at_call 85; (with_reducible refine (bonsairef03_Reader_Num.calls kj3 gb196 a0 a1 0 t197 t198 t199 t200 w _ ?side1 ?side2 A7.out).mono ?_); (case side1 => repeat (first | (with_reducible first | exact HI196.out | apply IsS93.alloc | apply IsS93.drewN | apply IsS93.drew | apply IsS93.set_0 | apply IsS93.set_1 | apply IsS93.set_2) | exact HI196.out)); (case side2 => repeat (first | (with_reducible first | exact HB.out | apply below_alloc | apply pw_below_drewN | apply below_drew1 | refine below_set ?_ (IsS93.ge HI196.out)) | exact HB.out)); rintro e w27 ⟨rfl, hi, hb, hk⟩; have n0_ := Aside0.mk (hb); have n1_ := Aside0.mk (hi); clear HB; clear HI196; have HB := n0_; have HI196 := n1_; clear n0_ n1_; (try clear hb); (try clear hb2); (try clear hk); (try clear hi); obtain ⟨HGz28, hgz28⟩ := HI196.out; have hcz28_0 := cellS93_0 HGz28; have hcz28_1 := cellS93_1 HGz28; have hcz28_2 := cellS93_2 HGz28; have hfz28_0 := blk_frozen HGz28 0; have hfz28_1 := blk_frozen HGz28 1; have hfz28_2 := blk_frozen HGz28 2; clear HGz28 hgz28)))
          go_ret3
          exact ⟨by first | rfl | (simp [errW_none, errW_some] <;> rfl) | (simp [*, errW_none, errW_some] <;> rfl), by repeat (first | (with_reducible first | exact HB.out | apply below_alloc | apply pw_below_drewN | apply below_drew1 | refine below_set ?_ (IsS93.ge HI196.out)) | exact HB.out)⟩
end Go.Proofs.Ytbgjoiccehiglaa.Print
end
section
namespace Go.Proofs.Ytbgjoiccehiglaa.Print
open Go.RowKit Go.Proofs.YtbgjoiccehiglaaW.PrintWords Go.Proofs.YtbgjoiccehiglaaW.PrintLast Go.Proofs.YtbgjoiccehiglaaW.PrintMore
attribute [local go_sem] max2_int min2_int max_two min_two max_three min_three max_four min_four
set_option linter.unusedVariables false
set_option linter.unusedSimpArgs false
def runs_May.l0 : Nat → List (S53) → List (S53) → Int → Int → Option (Bool)
  | 0, _, _, _, _ => none
  | k + 1, x0, x5, x6, x7 => if x7 < x6 then (if 0 ≤ x7 then (if x7 < (x5.length : Int) then (if ((rd_T53 x5 x7).f1) < 1 then (some false) else (if x7 > 0 then (if 0 ≤ (wrap64 (x7 - 1)) then (if (wrap64 (x7 - 1)) < (x0.length : Int) then (if ((rd_T53 x0 (wrap64 (x7 - 1))).f0) = ((rd_T53 x5 x7).f0) then (some false) else (runs_May.l0 k x0 x5 x6 (wrap64 (x7 + 1)))) else (none)) else (none)) else (runs_May.l0 k x0 x5 x6 (wrap64 (x7 + 1))))) else (none)) else (none)) else (some true)
def runs_May.f (k : Nat) (l0 : List (S53)) : Option (Bool) := runs_May.l0 k l0 l0 (l0.length : Int) 0
theorem runs_May.mono_l : ∀ k, (∀ y0 y1 y2 y3, LeO (runs_May.l0 k y0 y1 y2 y3) (runs_May.l0 (k + 1) y0 y1 y2 y3))
  | 0 => fun _ _ _ _ r h => by simp [runs_May.l0] at h
  | k + 1 => by
    have ih0 := runs_May.mono_l k
    · intro y0 y1 y2 y3
      unfold runs_May.l0
      repeat' first
      | (with_reducible exact ih0 _ _ _ _)
      | (with_reducible exact LeO.refl _)
      | (with_reducible exact LeO.none _)
      | (with_reducible refine LeO.ite ?_ ?_)
      | (with_reducible refine LeO.bind ?_ (fun _ => ?_))
      | exact ih0 _ _ _ _
      | exact LeO.none _
      | refine LeO.ite ?_ ?_
      | refine LeO.bind ?_ (fun _ => ?_)
theorem runs_May.mono : ∀ a0 k, LeO (runs_May.f k a0) (runs_May.f (k + 1) a0) := by
  intro a0 k
  have ih0 := runs_May.mono_l k
  unfold runs_May.f
  repeat' first
      | (with_reducible exact ih0 _ _ _ _)
      | (with_reducible exact LeO.refl _)
      | (with_reducible exact LeO.none _)
      | (with_reducible refine LeO.ite ?_ ?_)
      | (with_reducible refine LeO.bind ?_ (fun _ => ?_))
      | exact ih0 _ _ _ _
      | exact LeO.none _
      | refine LeO.ite ?_ ?_
      | refine LeO.bind ?_ (fun _ => ?_)
set_option maxHeartbeats 8000000 in
set_option maxRecDepth 100000 in
theorem runs_May.calls (k : Nat) (A0 : Option Addr) (c0 : Nat) (l0 : List (S53)) (r : Bool) (w : World) (hr0 : Kd.C k53 w A0 l0.length l0) (hc0 : l0.length ≤ c0) (h : runs_May.f k l0 = some r) :
    Calls Try.prog 46 #[.slice A0 l0.length c0] w fun e w' => e = .returned (.bool r) ∧ Below w.heap.size w w' := by
  have hu53 := Try.underlying53
  have HR0 := Aside0.mk hr0
  have HC0 := Aside0.mk hc0
  clear hr0 hc0
  have HB := Aside0.mk (Below.refl w.heap.size w)
  have H : (runs_May.l0 k l0 l0 (l0.length : Int) 0) = some r := h
  clear h
  have H' := Aside0.mk H
  clear H
  go_enter Try.func46, Try.ntmps46
  go_wp2
  repeat (go_quiet (fail); try go_wp2)
  go_loopg [7] k (fun kq v7 w' => ∃ (x7_1 : Int), v7 = .int .i64 x7_1 ∧ Aside0 (runs_May.l0 kq l0 l0 (l0.length : Int) x7_1 = some r) ∧ Aside0 (kq ≤ k) ∧ Aside0 (Below w.heap.size w w'))
  case atStart => exact ⟨(0), (by first | rfl | (simp; done) | (simp [*]; done)), H', ⟨Nat.le_refl _⟩, ⟨by repeat (first | (with_reducible first | exact HB.out | apply below_alloc | apply pw_below_drewN | apply below_drew1) | exact HB.out)⟩⟩
  case round =>
    clear H'
    obtain ⟨x7_1, rfl, HA, HK1, HB⟩ := hrel
    cases gk with
    | zero => exact absurd HA.out (by simp [runs_May.l0])
    | succ k1 =>
      have H := HA.out
      clear HA
      simp only [runs_May.l0] at H
      by_cases c2 : x7_1 < (l0.length : Int)
      · rw [if_pos c2] at H
        have c2b0 : decide (x7_1 < (l0.length : Int)) = true := decide_eq_true c2
        clear c2
        by_cases c3 : 0 ≤ x7_1
        · rw [if_pos c3] at H
          have c3b0 : decide (0 ≤ x7_1) = true := decide_eq_true c3
          clear c3
          by_cases c4 : x7_1 < (l0.length : Int)
          · rw [if_pos c4] at H
            have c4b0 : decide (x7_1 < (l0.length : Int)) = true := decide_eq_true c4
            clear c4
            by_cases c5 : ((rd_T53 l0 x7_1).f1) < 1
            · rw [if_pos c5] at H
              have c5b0 : decide (((rd_T53 l0 x7_1).f1) < 1) = true := decide_eq_true c5
              clear c5
              obtain rfl := Option.some.inj H
              have p264 : 0 ≤ (x7_1 : Int) := of_decide_eq_true (by first | (with_reducible assumption) | assumption)
              have q264 : x7_1 < (l0.length : Int) := of_decide_eq_true (by first | (with_reducible assumption) | assumption)
              obtain ⟨ad264, e264, hx264_0, hx264_1⟩ := at_T53 HR0.out x7_1 p264 q264
              cases e264
              replace hx264_0 := (HB.out.cell (World.block_lt_of_cell? w _ hx264_0)).trans hx264_0
              replace hx264_1 := (HB.out.cell (World.block_lt_of_cell? w _ hx264_1)).trans hx264_1
              replace p264 := eq_true p264
              replace q264 := eq_true q264
              go_wp2_with (first | ((with_reducible refine gate_dst (N := 4) rfl ?_); refine box_event ?hg (N := 4) ?hd (cs := #[.int .u64 0, .int .i64 0]) (t := 53) ?hr ?_; (case hd => rfl); (case hg => rfl); (case hr => first | (go_simp; done) | (go_simp; rfl)); intro gb265 hg w6 hbox hb; have n0_ := Aside0.mk (below_step (by repeat (first | (with_reducible first | exact HB.out | apply below_alloc | apply pw_below_drewN | apply below_drew1) | exact HB.out)) hb); have n1_ := Aside0.mk (hbox); have n2_ := Aside0.mk ((by rw [hg]; exact (below_size (by repeat (first | (with_reducible first | exact HB.out | apply below_alloc | apply pw_below_drewN | apply below_drew1) | exact HB.out))) : w.heap.size ≤ gb265)); have n3_ := Aside0.mk ((by rw [hg]; exact (below_size (by repeat (first | (with_reducible first | exact HB.out | apply below_alloc | apply pw_below_drewN | apply below_drew1) | exact HB.out))) : w.heap.size ≤ gb265)); clear HB; have HB := n0_; have BK265 := n1_; have GW265 := n2_; have GE265 := n3_; clear n0_ n1_ n2_ n3_; clear hb hbox hg; have hcz7_0 : w6.cell? ⟨gb265, 0, none⟩ = some (.int .u64 0) := (blk_cell BK265.out 0).trans rfl; have hcz7_1 : w6.cell? ⟨gb265, 1, none⟩ = some (.int .i64 0) := (blk_cell BK265.out 1).trans rfl; have hfz7_0 := blk_frozen BK265.out 0; have hfz7_1 := blk_frozen BK265.out 1))
              repeat (go_quiet (first | ((with_reducible refine gate_dst (N := 4) rfl ?_); refine box_event ?hg (N := 4) ?hd (cs := #[.int .u64 0, .int .i64 0]) (t := 53) ?hr ?_; (case hd => rfl); (case hg => rfl); (case hr => first | (go_simp; done) | (go_simp; rfl)); intro gb265 hg w6 hbox hb; have n0_ := Aside0.mk (below_step (by repeat (first | (with_reducible first | exact HB.out | apply below_alloc | apply pw_below_drewN | apply below_drew1) | exact HB.out)) hb); have n1_ := Aside0.mk (hbox); have n2_ := Aside0.mk ((by rw [hg]; exact (below_size (by repeat (first | (with_reducible first | exact HB.out | apply below_alloc | apply pw_below_drewN | apply below_drew1) | exact HB.out))) : w.heap.size ≤ gb265)); have n3_ := Aside0.mk ((by rw [hg]; exact (below_size (by repeat (first | (with_reducible first | exact HB.out | apply below_alloc | apply pw_below_drewN | apply below_drew1) | exact HB.out))) : w.heap.size ≤ gb265)); clear HB; have HB := n0_; have BK265 := n1_; have GW265 := n2_; have GE265 := n3_; clear n0_ n1_ n2_ n3_; clear hb hbox hg; have hcz7_0 : w6.cell? ⟨gb265, 0, none⟩ = some (.int .u64 0) := (blk_cell BK265.out 0).trans rfl; have hcz7_1 : w6.cell? ⟨gb265, 1, none⟩ = some (.int .i64 0) := (blk_cell BK265.out 1).trans rfl; have hfz7_0 := blk_frozen BK265.out 0; have hfz7_1 := blk_frozen BK265.out 1)); try go_wp2_with (first | ((with_reducible refine gate_dst (N := 4) rfl ?_); refine box_event ?hg (N := 4) ?hd (cs := #[.int .u64 0, .int .i64 0]) (t := 53) ?hr ?_; (case hd => rfl); (case hg => rfl); (case hr => first | (go_simp; done) | (go_simp; rfl)); intro gb265 hg w6 hbox hb; have n0_ := Aside0.mk (below_step (by repeat (first | (with_reducible first | exact HB.out | apply below_alloc | apply pw_below_drewN | apply below_drew1) | exact HB.out)) hb); have n1_ := Aside0.mk (hbox); have n2_ := Aside0.mk ((by rw [hg]; exact (below_size (by repeat (first | (with_reducible first | exact HB.out | apply below_alloc | apply pw_below_drewN | apply below_drew1) | exact HB.out))) : w.heap.size ≤ gb265)); have n3_ := Aside0.mk ((by rw [hg]; exact (below_size (by repeat (first | (with_reducible first | exact HB.out | apply below_alloc | apply pw_below_drewN | apply below_drew1) | exact HB.out))) : w.heap.size ≤ gb265)); clear HB; have HB := n0_; have BK265 := n1_; have GW265 := n2_; have GE265 := n3_; clear n0_ n1_ n2_ n3_; clear hb hbox hg; have hcz7_0 : w6.cell? ⟨gb265, 0, none⟩ = some (.int .u64 0) := (blk_cell BK265.out 0).trans rfl; have hcz7_1 : w6.cell? ⟨gb265, 1, none⟩ = some (.int .i64 0) := (blk_cell BK265.out 1).trans rfl; have hfz7_0 := blk_frozen BK265.out 0; have hfz7_1 := blk_frozen BK265.out 1)))
              go_ret
              exact ⟨by first | rfl | (simp [errW_none, errW_some] <;> rfl) | (simp [*, errW_none, errW_some] <;> rfl), by repeat (first | (with_reducible first | exact HB.out | apply below_alloc | apply pw_below_drewN | apply below_drew1 | refine below_set ?_ GE265.out) | exact HB.out)⟩
            · rw [if_neg c5] at H
              have c5b0 : decide (((rd_T53 l0 x7_1).f1) < 1) = false := decide_eq_false c5
              clear c5
              by_cases c8 : x7_1 > 0
              · rw [if_pos c8] at H
                have c8b0 : decide (0 < x7_1) = true := decide_eq_true c8
                clear c8
                obtain ⟨ji9, hji9⟩ : ∃ j_ : Int, (wrap64 (x7_1 - 1)) = j_ := ⟨_, rfl⟩
                replace H : (if 0 ≤ (ji9) then (if (ji9) < (l0.length : Int) then (if ((rd_T53 l0 (ji9)).f0) = ((rd_T53 l0 x7_1).f0) then (some false) else (runs_May.l0 k1 l0 l0 (l0.length : Int) (wrap64 (x7_1 + 1)))) else (none)) else (none)) = some r := by first | (rw [hji9] at H; exact H) | (simp only [hji9] at H ⊢; exact H)
                have hji9w : (IntKind.i64.wrap (x7_1 - 1)) = ji9 := (i64_w _).trans hji9
                by_cases c10 : 0 ≤ (ji9)
                · rw [if_pos c10] at H
                  have c10b0 : decide (0 ≤ (ji9)) = true := decide_eq_true c10
                  clear c10
                  by_cases c11 : (ji9) < (l0.length : Int)
                  · rw [if_pos c11] at H
                    have c11b0 : decide ((ji9) < (l0.length : Int)) = true := decide_eq_true c11
                    clear c11
                    by_cases c12 : ((rd_T53 l0 (ji9)).f0) = ((rd_T53 l0 x7_1).f0)
                    · rw [if_pos c12] at H
                      have c12b0 : (((rd_T53 l0 (ji9)).f0) == ((rd_T53 l0 x7_1).f0)) = true := beq_iff_eq.mpr c12
                      have c12b1 : (((rd_T53 l0 (ji9)).f0) != ((rd_T53 l0 x7_1).f0)) = false := bne_eq_false_iff_eq.mpr c12
                      clear c12
                      obtain rfl := Option.some.inj H
                      have p264 : 0 ≤ (x7_1 : Int) := of_decide_eq_true (by first | (with_reducible assumption) | assumption)
                      have q264 : x7_1 < (l0.length : Int) := of_decide_eq_true (by first | (with_reducible assumption) | assumption)
                      obtain ⟨ad264, e264, hx264_0, hx264_1⟩ := at_T53 HR0.out x7_1 p264 q264
                      cases e264
                      replace hx264_0 := (HB.out.cell (World.block_lt_of_cell? w _ hx264_0)).trans hx264_0
                      replace hx264_1 := (HB.out.cell (World.block_lt_of_cell? w _ hx264_1)).trans hx264_1
                      replace p264 := eq_true p264
                      replace q264 := eq_true q264
                      go_wp2_with (first | ((with_reducible refine gate_dst (N := 4) rfl ?_); refine box_event ?hg (N := 4) ?hd (cs := #[.int .u64 0, .int .i64 0]) (t := 53) ?hr ?_; (case hd => rfl); (case hg => rfl); (case hr => first | (go_simp; done) | (go_simp; rfl)); intro gb265 hg w13 hbox hb; have n0_ := Aside0.mk (below_step (by repeat (first | (with_reducible first | exact HB.out | apply below_alloc | apply pw_below_drewN | apply below_drew1) | exact HB.out)) hb); have n1_ := Aside0.mk (hbox); have n2_ := Aside0.mk ((by rw [hg]; exact (below_size (by repeat (first | (with_reducible first | exact HB.out | apply below_alloc | apply pw_below_drewN | apply below_drew1) | exact HB.out))) : w.heap.size ≤ gb265)); have n3_ := Aside0.mk ((by rw [hg]; exact (below_size (by repeat (first | (with_reducible first | exact HB.out | apply below_alloc | apply pw_below_drewN | apply below_drew1) | exact HB.out))) : w.heap.size ≤ gb265)); clear HB; have HB := n0_; have BK265 := n1_; have GW265 := n2_; have GE265 := n3_; clear n0_ n1_ n2_ n3_; clear hb hbox hg; have hcz14_0 : w13.cell? ⟨gb265, 0, none⟩ = some (.int .u64 0) := (blk_cell BK265.out 0).trans rfl; have hcz14_1 : w13.cell? ⟨gb265, 1, none⟩ = some (.int .i64 0) := (blk_cell BK265.out 1).trans rfl; have hfz14_0 := blk_frozen BK265.out 0; have hfz14_1 := blk_frozen BK265.out 1; have p266 : 0 ≤ ((ji9) : Int) := of_decide_eq_true (by first | (with_reducible assumption) | assumption); have q266 : (ji9) < (l0.length : Int) := of_decide_eq_true (by first | (with_reducible assumption) | assumption); obtain ⟨ad266, e266, hx266_0, hx266_1⟩ := at_T53 HR0.out (ji9) p266 q266; obtain rfl : ad264 = ad266 := (by injection e266); have hn266_0 : ad264.block ≠ gb265 := Nat.ne_of_lt (Nat.lt_of_lt_of_le (by have := World.block_lt_of_cell? _ _ hx266_0; first | rwa [add_block] at this | exact this) GW265.out); have hn266_1 : ad264.block ≠ gb265 := Nat.ne_of_lt (Nat.lt_of_lt_of_le (by have := World.block_lt_of_cell? _ _ hx266_0; first | rwa [add_block] at this | exact this) GW265.out); replace hx266_0 := (HB.out.cell (World.block_lt_of_cell? w _ hx266_0)).trans hx266_0; replace hx266_1 := (HB.out.cell (World.block_lt_of_cell? w _ hx266_1)).trans hx266_1; replace hx266_0 := (cell_far (p := ⟨gb265, 0, none⟩) (by first | (rw [add_block]; exact hn266_0) | (show (Addr.add _ _).block ≠ _; rw [add_block]; exact hn266_0) | exact hn266_0) (.int .u64 ((rd_T53 l0 x7_1).f0))).trans hx266_0; replace hx266_1 := (cell_far (p := ⟨gb265, 0, none⟩) (by first | (rw [add_block]; exact hn266_0) | (show (Addr.add _ _).block ≠ _; rw [add_block]; exact hn266_0) | exact hn266_0) (.int .u64 ((rd_T53 l0 x7_1).f0))).trans hx266_1; replace hx266_0 := (cell_far (p := ⟨gb265, 1, none⟩) (by first | (rw [add_block]; exact hn266_1) | (show (Addr.add _ _).block ≠ _; rw [add_block]; exact hn266_1) | exact hn266_1) (.int .i64 ((rd_T53 l0 x7_1).f1))).trans hx266_0; replace hx266_1 := (cell_far (p := ⟨gb265, 1, none⟩) (by first | (rw [add_block]; exact hn266_1) | (show (Addr.add _ _).block ≠ _; rw [add_block]; exact hn266_1) | exact hn266_1) (.int .i64 ((rd_T53 l0 x7_1).f1))).trans hx266_1; (try have hy266_0 := fun (n_ : Nat) => (show ((((w13.drewN n_).setCell ⟨gb265, 0, none⟩ (.int .u64 ((rd_T53 l0 x7_1).f0))).setCell ⟨gb265, 1, none⟩ (.int .i64 ((rd_T53 l0 x7_1).f1)))).cell? _ = some _ from hx266_0)); (try have hy266_1 := fun (n_ : Nat) => (show ((((w13.drewN n_).setCell ⟨gb265, 0, none⟩ (.int .u64 ((rd_T53 l0 x7_1).f0))).setCell ⟨gb265, 1, none⟩ (.int .i64 ((rd_T53 l0 x7_1).f1)))).cell? _ = some _ from hx266_1)); clear hn266_0; clear hn266_1; replace p266 := eq_true p266; replace q266 := eq_true q266))
                      repeat (go_quiet (first | ((with_reducible refine gate_dst (N := 4) rfl ?_); refine box_event ?hg (N := 4) ?hd (cs := #[.int .u64 0, .int .i64 0]) (t := 53) ?hr ?_; (case hd => rfl); (case hg => rfl); (case hr => first | (go_simp; done) | (go_simp; rfl)); intro gb265 hg w13 hbox hb; have n0_ := Aside0.mk (below_step (by repeat (first | (with_reducible first | exact HB.out | apply below_alloc | apply pw_below_drewN | apply below_drew1) | exact HB.out)) hb); have n1_ := Aside0.mk (hbox); have n2_ := Aside0.mk ((by rw [hg]; exact (below_size (by repeat (first | (with_reducible first | exact HB.out | apply below_alloc | apply pw_below_drewN | apply below_drew1) | exact HB.out))) : w.heap.size ≤ gb265)); have n3_ := Aside0.mk ((by rw [hg]; exact (below_size (by repeat (first | (with_reducible first | exact HB.out | apply below_alloc | apply pw_below_drewN | apply below_drew1) | exact HB.out))) : w.heap.size ≤ gb265)); clear HB; have HB := n0_; have BK265 := n1_; have GW265 := n2_; have GE265 := n3_; clear n0_ n1_ n2_ n3_; clear hb hbox hg; have hcz14_0 : w13.cell? ⟨gb265, 0, none⟩ = some (.int .u64 0) := (blk_cell BK265.out 0).trans rfl; have hcz14_1 : w13.cell? ⟨gb265, 1, none⟩ = some (.int .i64 0) := (blk_cell BK265.out 1).trans rfl; have hfz14_0 := blk_frozen BK265.out 0; have hfz14_1 := blk_frozen BK265.out 1; have p266 : 0 ≤ ((ji9) : Int) := of_decide_eq_true (by first | (with_reducible assumption) | assumption); have q266 : (ji9) < (l0.length : Int) := of_decide_eq_true (by first | (with_reducible assumption) | assumption); obtain ⟨ad266, e266, hx266_0, hx266_1⟩ := at_T53 HR0.out (ji9) p266 q266; obtain rfl : ad264 = ad266 := (by injection e266); have hn266_0 : ad264.block ≠ gb265 := Nat.ne_of_lt (Nat.lt_of_lt_of_le (by have := World.block_lt_of_cell? _ _ hx266_0; first | rwa [add_block] at this | exact this) GW265.out); have hn266_1 : ad264.block ≠ gb265 := Nat.ne_of_lt (Nat.lt_of_lt_of_le (by have := World.block_lt_of_cell? _ _ hx266_0; first | rwa [add_block] at this | exact this) GW265.out); replace hx266_0 := (HB.out.cell (World.block_lt_of_cell? w _ hx266_0)).trans hx266_0; replace hx266_1 := (HB.out.cell (World.block_lt_of_cell? w _ hx266_1)).trans hx266_1; replace hx266_0 := (cell_far (p := ⟨gb265, 0, none⟩) (by first | (rw [add_block]; exact hn266_0) | (show (Addr.add _ _).block ≠ _; rw [add_block]; exact hn266_0) | exact hn266_0) (.int .u64 ((rd_T53 l0 x7_1).f0))).trans hx266_0; replace hx266_1 := (cell_far (p := ⟨gb265, 0, none⟩) (by first | (rw [add_block]; exact hn266_0) | (show (Addr.add _ _).block ≠ _; rw [add_block]; exact hn266_0) | exact hn266_0) (.int .u64 ((rd_T53 l0 x7_1).f0))).trans hx266_1; replace hx266_0 := (cell_far (p := ⟨gb265, 1, none⟩) (by first | (rw [add_block]; exact hn266_1) | (show (Addr.add _ _).block ≠ _; rw [add_block]; exact hn266_1) | exact hn266_1) (.int .i64 ((rd_T53 l0 x7_1).f1))).trans hx266_0; replace hx266_1 := (cell_far (p := ⟨gb265, 1, none⟩) (by first | (rw [add_block]; exact hn266_1) | (show (Addr.add _ _).block ≠ _; rw [add_block]; exact hn266_1) | exact hn266_1) (.int .i64 ((rd_T53 l0 x7_1).f1))).trans hx266_1; (try have hy266_0 := fun (n_ : Nat) => (show ((((w13.drewN n_).setCell ⟨gb265, 0, none⟩ (.int .u64 ((rd_T53 l0 x7_1).f0))).setCell ⟨gb265, 1, none⟩ (.int .i64 ((rd_T53 l0 x7_1).f1)))).cell? _ = some _ from hx266_0)); (try have hy266_1 := fun (n_ : Nat) => (show ((((w13.drewN n_).setCell ⟨gb265, 0, none⟩ (.int .u64 ((rd_T53 l0 x7_1).f0))).setCell ⟨gb265, 1, none⟩ (.int .i64 ((rd_T53 l0 x7_1).f1)))).cell? _ = some _ from hx266_1)); clear hn266_0; clear hn266_1; replace p266 := eq_true p266; replace q266 := eq_true q266)); try go_wp2_with (first | ((with_reducible refine gate_dst (N := 4) rfl ?_); refine box_event ?hg (N := 4) ?hd (cs := #[.int .u64 0, .int .i64 0]) (t := 53) ?hr ?_; (case hd => rfl); (case hg => rfl); (case hr => first | (go_simp; done) | (go_simp; rfl)); intro gb265 hg w13 hbox hb; have n0_ := Aside0.mk (below_step (by repeat (first | (with_reducible first | exact HB.out | apply below_alloc | apply pw_below_drewN | apply below_drew1) | exact HB.out)) hb); have n1_ := Aside0.mk (hbox); have n2_ := Aside0.mk ((by rw [hg]; exact (below_size (by repeat (first | (with_reducible first | exact HB.out | apply below_alloc | apply pw_below_drewN | apply below_drew1) | exact HB.out))) : w.heap.size ≤ gb265)); have n3_ := Aside0.mk ((by rw [hg]; exact (below_size (by repeat (first | (with_reducible first | exact HB.out | apply below_alloc | apply pw_below_drewN | apply below_drew1) | exact HB.out))) : w.heap.size ≤ gb265)); clear HB; have HB := n0_; have BK265 := n1_; have GW265 := n2_; have GE265 := n3_; clear n0_ n1_ n2_ n3_; clear hb hbox hg; have hcz14_0 : w13.cell? ⟨gb265, 0, none⟩ = some (.int .u64 0) := (blk_cell BK265.out 0).trans rfl; have hcz14_1 : w13.cell? ⟨gb265, 1, none⟩ = some (.int .i64 0) := (blk_cell BK265.out 1).trans rfl; have hfz14_0 := blk_frozen BK265.out 0; have hfz14_1 := blk_frozen BK265.out 1; have p266 : 0 ≤ ((ji9) : Int) := of_decide_eq_true (by first | (with_reducible assumption) | assumption); have q266 : (ji9) < (l0.length : Int) := of_decide_eq_true (by first | (with_reducible assumption) | assumption); obtain ⟨ad266, e266, hx266_0, hx266_1⟩ := at_T53 HR0.out (ji9) p266 q266; obtain rfl : ad264 = ad266 := (by injection e266); have hn266_0 : ad264.block ≠ gb265 := Nat.ne_of_lt (Nat.lt_of_lt_of_le (by have := World.block_lt_of_cell? _ _ hx266_0; first | rwa [add_block] at this | exact this) GW265.out); have hn266_1 : ad264.block ≠ gb265 := Nat.ne_of_lt (Nat.lt_of_lt_of_le (by have := World.block_lt_of_cell? _ _ hx266_0; first | rwa [add_block] at this | exact this) GW265.out); replace hx266_0 := (HB.out.cell (World.block_lt_of_cell? w _ hx266_0)).trans hx266_0; replace hx266_1 := (HB.out.cell (World.block_lt_of_cell? w _ hx266_1)).trans hx266_1; replace hx266_0 := (cell_far (p := ⟨gb265, 0, none⟩) (by first | (rw [add_block]; exact hn266_0) | (show (Addr.add _ _).block ≠ _; rw [add_block]; exact hn266_0) | exact hn266_0) (.int .u64 ((rd_T53 l0 x7_1).f0))).trans hx266_0; replace hx266_1 := (cell_far (p := ⟨gb265, 0, none⟩) (by first | (rw [add_block]; exact hn266_0) | (show (Addr.add _ _).block ≠ _; rw [add_block]; exact hn266_0) | exact hn266_0) (.int .u64 ((rd_T53 l0 x7_1).f0))).trans hx266_1; replace hx266_0 := (cell_far (p := ⟨gb265, 1, none⟩) (by first | (rw [add_block]; exact hn266_1) | (show (Addr.add _ _).block ≠ _; rw [add_block]; exact hn266_1) | exact hn266_1) (.int .i64 ((rd_T53 l0 x7_1).f1))).trans hx266_0; replace hx266_1 := (cell_far (p := ⟨gb265, 1, none⟩) (by first | (rw [add_block]; exact hn266_1) | (show (Addr.add _ _).block ≠ _; rw [add_block]; exact hn266_1) | exact hn266_1) (.int .i64 ((rd_T53 l0 x7_1).f1))).trans hx266_1; (try have hy266_0 := fun (n_ : Nat) => (show ((((w13.drewN n_).setCell ⟨gb265, 0, none⟩ (.int .u64 ((rd_T53 l0 x7_1).f0))).setCell ⟨gb265, 1, none⟩ (.int .i64 ((rd_T53 l0 x7_1).f1)))).cell? _ = some _ from hx266_0)); (try have hy266_1 := fun (n_ : Nat) => (show ((((w13.drewN n_).setCell ⟨gb265, 0, none⟩ (.int .u64 ((rd_T53 l0 x7_1).f0))).setCell ⟨gb265, 1, none⟩ (.int .i64 ((rd_T53 l0 x7_1).f1)))).cell? _ = some _ from hx266_1)); clear hn266_0; clear hn266_1; replace p266 := eq_true p266; replace q266 := eq_true q266)))
                      go_ret
                      (try simp only [hji9])
                      exact ⟨by first | rfl | (simp [errW_none, errW_some] <;> rfl) | (simp only [← hji9]; first | rfl | (simp [errW_none, errW_some] <;> rfl)) | (simp [*, errW_none, errW_some] <;> rfl), by repeat (first | (with_reducible first | exact HB.out | apply below_alloc | apply pw_below_drewN | apply below_drew1 | refine below_set ?_ GE265.out) | exact HB.out)⟩
                    · rw [if_neg c12] at H
                      have c12b0 : (((rd_T53 l0 (ji9)).f0) == ((rd_T53 l0 x7_1).f0)) = false := beq_eq_false_iff_ne.mpr c12
                      have c12b1 : (((rd_T53 l0 (ji9)).f0) != ((rd_T53 l0 x7_1).f0)) = true := bne_iff_ne.mpr c12
                      have H' := Aside0.mk H
                      clear H
                      have p264 : 0 ≤ (x7_1 : Int) := of_decide_eq_true (by first | (with_reducible assumption) | assumption)
                      have q264 : x7_1 < (l0.length : Int) := of_decide_eq_true (by first | (with_reducible assumption) | assumption)
                      obtain ⟨ad264, e264, hx264_0, hx264_1⟩ := at_T53 HR0.out x7_1 p264 q264
                      cases e264
                      replace hx264_0 := (HB.out.cell (World.block_lt_of_cell? w _ hx264_0)).trans hx264_0
                      replace hx264_1 := (HB.out.cell (World.block_lt_of_cell? w _ hx264_1)).trans hx264_1
                      replace p264 := eq_true p264
                      replace q264 := eq_true q264
                      go_wp2_with (first | ((with_reducible refine gate_dst (N := 4) rfl ?_); refine box_event ?hg (N := 4) ?hd (cs := #[.int .u64 0, .int .i64 0]) (t := 53) ?hr ?_; (case hd => rfl); (case hg => rfl); (case hr => first | (go_simp; done) | (go_simp; rfl)); intro gb265 hg w15 hbox hb; have n0_ := Aside0.mk (below_step (by repeat (first | (with_reducible first | exact HB.out | apply below_alloc | apply pw_below_drewN | apply below_drew1) | exact HB.out)) hb); have n1_ := Aside0.mk (hbox); have n2_ := Aside0.mk ((by rw [hg]; exact (below_size (by repeat (first | (with_reducible first | exact HB.out | apply below_alloc | apply pw_below_drewN | apply below_drew1) | exact HB.out))) : w.heap.size ≤ gb265)); have n3_ := Aside0.mk ((by rw [hg]; exact (below_size (by repeat (first | (with_reducible first | exact HB.out | apply below_alloc | apply pw_below_drewN | apply below_drew1) | exact HB.out))) : w.heap.size ≤ gb265)); clear HB; have HB := n0_; have BK265 := n1_; have GW265 := n2_; have GE265 := n3_; clear n0_ n1_ n2_ n3_; clear hb hbox hg; have hcz16_0 : w15.cell? ⟨gb265, 0, none⟩ = some (.int .u64 0) := (blk_cell BK265.out 0).trans rfl; have hcz16_1 : w15.cell? ⟨gb265, 1, none⟩ = some (.int .i64 0) := (blk_cell BK265.out 1).trans rfl; have hfz16_0 := blk_frozen BK265.out 0; have hfz16_1 := blk_frozen BK265.out 1; have p266 : 0 ≤ ((ji9) : Int) := of_decide_eq_true (by first | (with_reducible assumption) | assumption); have q266 : (ji9) < (l0.length : Int) := of_decide_eq_true (by first | (with_reducible assumption) | assumption); obtain ⟨ad266, e266, hx266_0, hx266_1⟩ := at_T53 HR0.out (ji9) p266 q266; obtain rfl : ad264 = ad266 := (by injection e266); have hn266_0 : ad264.block ≠ gb265 := Nat.ne_of_lt (Nat.lt_of_lt_of_le (by have := World.block_lt_of_cell? _ _ hx266_0; first | rwa [add_block] at this | exact this) GW265.out); have hn266_1 : ad264.block ≠ gb265 := Nat.ne_of_lt (Nat.lt_of_lt_of_le (by have := World.block_lt_of_cell? _ _ hx266_0; first | rwa [add_block] at this | exact this) GW265.out); replace hx266_0 := (HB.out.cell (World.block_lt_of_cell? w _ hx266_0)).trans hx266_0; replace hx266_1 := (HB.out.cell (World.block_lt_of_cell? w _ hx266_1)).trans hx266_1; replace hx266_0 := (cell_far (p := ⟨gb265, 0, none⟩) (by first | (rw [add_block]; exact hn266_0) | (show (Addr.add _ _).block ≠ _; rw [add_block]; exact hn266_0) | exact hn266_0) (.int .u64 ((rd_T53 l0 x7_1).f0))).trans hx266_0; replace hx266_1 := (cell_far (p := ⟨gb265, 0, none⟩) (by first | (rw [add_block]; exact hn266_0) | (show (Addr.add _ _).block ≠ _; rw [add_block]; exact hn266_0) | exact hn266_0) (.int .u64 ((rd_T53 l0 x7_1).f0))).trans hx266_1; replace hx266_0 := (cell_far (p := ⟨gb265, 1, none⟩) (by first | (rw [add_block]; exact hn266_1) | (show (Addr.add _ _).block ≠ _; rw [add_block]; exact hn266_1) | exact hn266_1) (.int .i64 ((rd_T53 l0 x7_1).f1))).trans hx266_0; replace hx266_1 := (cell_far (p := ⟨gb265, 1, none⟩) (by first | (rw [add_block]; exact hn266_1) | (show (Addr.add _ _).block ≠ _; rw [add_block]; exact hn266_1) | exact hn266_1) (.int .i64 ((rd_T53 l0 x7_1).f1))).trans hx266_1; (try have hy266_0 := fun (n_ : Nat) => (show ((((w15.drewN n_).setCell ⟨gb265, 0, none⟩ (.int .u64 ((rd_T53 l0 x7_1).f0))).setCell ⟨gb265, 1, none⟩ (.int .i64 ((rd_T53 l0 x7_1).f1)))).cell? _ = some _ from hx266_0)); (try have hy266_1 := fun (n_ : Nat) => (show ((((w15.drewN n_).setCell ⟨gb265, 0, none⟩ (.int .u64 ((rd_T53 l0 x7_1).f0))).setCell ⟨gb265, 1, none⟩ (.int .i64 ((rd_T53 l0 x7_1).f1)))).cell? _ = some _ from hx266_1)); clear hn266_0; clear hn266_1; replace p266 := eq_true p266; replace q266 := eq_true q266))
                      repeat (go_quiet (first | ((with_reducible refine gate_dst (N := 4) rfl ?_); refine box_event ?hg (N := 4) ?hd (cs := #[.int .u64 0, .int .i64 0]) (t := 53) ?hr ?_; (case hd => rfl); (case hg => rfl); (case hr => first | (go_simp; done) | (go_simp; rfl)); intro gb265 hg w15 hbox hb; have n0_ := Aside0.mk (below_step (by repeat (first | (with_reducible first | exact HB.out | apply below_alloc | apply pw_below_drewN | apply below_drew1) | exact HB.out)) hb); have n1_ := Aside0.mk (hbox); have n2_ := Aside0.mk ((by rw [hg]; exact (below_size (by repeat (first | (with_reducible first | exact HB.out | apply below_alloc | apply pw_below_drewN | apply below_drew1) | exact HB.out))) : w.heap.size ≤ gb265)); have n3_ := Aside0.mk ((by rw [hg]; exact (below_size (by repeat (first | (with_reducible first | exact HB.out | apply below_alloc | apply pw_below_drewN | apply below_drew1) | exact HB.out))) : w.heap.size ≤ gb265)); clear HB; have HB := n0_; have BK265 := n1_; have GW265 := n2_; have GE265 := n3_; clear n0_ n1_ n2_ n3_; clear hb hbox hg; have hcz16_0 : w15.cell? ⟨gb265, 0, none⟩ = some (.int .u64 0) := (blk_cell BK265.out 0).trans rfl; have hcz16_1 : w15.cell? ⟨gb265, 1, none⟩ = some (.int .i64 0) := (blk_cell BK265.out 1).trans rfl; have hfz16_0 := blk_frozen BK265.out 0; have hfz16_1 := blk_frozen BK265.out 1; have p266 : 0 ≤ ((ji9) : Int) := of_decide_eq_true (by first | (with_reducible assumption) | assumption); have q266 : (ji9) < (l0.length : Int) := of_decide_eq_true (by first | (with_reducible assumption) | assumption); obtain ⟨ad266, e266, hx266_0, hx266_1⟩ := at_T53 HR0.out (ji9) p266 q266; obtain rfl : ad264 = ad266 := (by injection e266); have hn266_0 : ad264.block ≠ gb265 := Nat.ne_of_lt (Nat.lt_of_lt_of_le (by have := World.block_lt_of_cell? _ _ hx266_0; first | rwa [add_block] at this | exact this) GW265.out); have hn266_1 : ad264.block ≠ gb265 := Nat.ne_of_lt (Nat.lt_of_lt_of_le (by have := World.block_lt_of_cell? _ _ hx266_0; first | rwa [add_block] at this | exact this) GW265.out); replace hx266_0 := (HB.out.cell (World.block_lt_of_cell? w _ hx266_0)).trans hx266_0; replace hx266_1 := (HB.out.cell (World.block_lt_of_cell? w _ hx266_1)).trans hx266_1; replace hx266_0 := (cell_far (p := ⟨gb265, 0, none⟩) (by first | (rw [add_block]; exact hn266_0) | (show (Addr.add _ _).block ≠ _; rw [add_block]; exact hn266_0) | exact hn266_0) (.int .u64 ((rd_T53 l0 x7_1).f0))).trans hx266_0; replace hx266_1 := (cell_far (p := ⟨gb265, 0, none⟩) (by first | (rw [add_block]; exact hn266_0) | (show (Addr.add _ _).block ≠ _; rw [add_block]; exact hn266_0) | exact hn266_0) (.int .u64 ((rd_T53 l0 x7_1).f0))).trans hx266_1; replace hx266_0 := (cell_far (p := ⟨gb265, 1, none⟩) (by first | (rw [add_block]; exact hn266_1) | (show (Addr.add _ _).block ≠ _; rw [add_block]; exact hn266_1) | exact hn266_1) (.int .i64 ((rd_T53 l0 x7_1).f1))).trans hx266_0; replace hx266_1 := (cell_far (p := ⟨gb265, 1, none⟩) (by first | (rw [add_block]; exact hn266_1) | (show (Addr.add _ _).block ≠ _; rw [add_block]; exact hn266_1) | exact hn266_1) (.int .i64 ((rd_T53 l0 x7_1).f1))).trans hx266_1; (try have hy266_0 := fun (n_ : Nat) => (show ((((w15.drewN n_).setCell ⟨gb265, 0, none⟩ (.int .u64 ((rd_T53 l0 x7_1).f0))).setCell ⟨gb265, 1, none⟩ (.int .i64 ((rd_T53 l0 x7_1).f1)))).cell? _ = some _ from hx266_0)); (try have hy266_1 := fun (n_ : Nat) => (show ((((w15.drewN n_).setCell ⟨gb265, 0, none⟩ (.int .u64 ((rd_T53 l0 x7_1).f0))).setCell ⟨gb265, 1, none⟩ (.int .i64 ((rd_T53 l0 x7_1).f1)))).cell? _ = some _ from hx266_1)); clear hn266_0; clear hn266_1; replace p266 := eq_true p266; replace q266 := eq_true q266)); try go_wp2_with (first | ((with_reducible refine gate_dst (N := 4) rfl ?_); refine box_event ?hg (N := 4) ?hd (cs := #[.int .u64 0, .int .i64 0]) (t := 53) ?hr ?_; (case hd => rfl); (case hg => rfl); (case hr => first | (go_simp; done) | (go_simp; rfl)); intro gb265 hg w15 hbox hb; have n0_ := Aside0.mk (below_step (by repeat (first | (with_reducible first | exact HB.out | apply below_alloc | apply pw_below_drewN | apply below_drew1) | exact HB.out)) hb); have n1_ := Aside0.mk (hbox); have n2_ := Aside0.mk ((by rw [hg]; exact (below_size (by repeat (first | (with_reducible first | exact HB.out | apply below_alloc | apply pw_below_drewN | apply below_drew1) | exact HB.out))) : w.heap.size ≤ gb265)); have n3_ := Aside0.mk ((by rw [hg]; exact (below_size (by repeat (first | (with_reducible first | exact HB.out | apply below_alloc | apply pw_below_drewN | apply below_drew1) | exact HB.out))) : w.heap.size ≤ gb265)); clear HB; have HB := n0_; have BK265 := n1_; have GW265 := n2_; have GE265 := n3_; clear n0_ n1_ n2_ n3_; clear hb hbox hg; have hcz16_0 : w15.cell? ⟨gb265, 0, none⟩ = some (.int .u64 0) := (blk_cell BK265.out 0).trans rfl; have hcz16_1 : w15.cell? ⟨gb265, 1, none⟩ = some (.int .i64 0) := (blk_cell BK265.out 1).trans rfl; have hfz16_0 := blk_frozen BK265.out 0; have hfz16_1 := blk_frozen BK265.out 1; have p266 : 0 ≤ ((ji9) : Int) := of_decide_eq_true (by first | (with_reducible assumption) | assumption); have q266 : (ji9) < (l0.length : Int) := of_decide_eq_true (by first | (with_reducible assumption) | assumption); obtain ⟨ad266, e266, hx266_0, hx266_1⟩ := at_T53 HR0.out (ji9) p266 q266; obtain rfl : ad264 = ad266 := (by injection e266); have hn266_0 : ad264.block ≠ gb265 := Nat.ne_of_lt (Nat.lt_of_lt_of_le (by have := World.block_lt_of_cell? _ _ hx266_0; first | rwa [add_block] at this | exact this) GW265.out); have hn266_1 : ad264.block ≠ gb265 := Nat.ne_of_lt (Nat.lt_of_lt_of_le (by have := World.block_lt_of_cell? _ _ hx266_0; first | rwa [add_block] at this | exact this) GW265.out); replace hx266_0 := (HB.out.cell (World.block_lt_of_cell? w _ hx266_0)).trans hx266_0; replace hx266_1 := (HB.out.cell (World.block_lt_of_cell? w _ hx266_1)).trans hx266_1; replace hx266_0 := (cell_far (p := ⟨gb265, 0, none⟩) (by first | (rw [add_block]; exact hn266_0) | (show (Addr.add _ _).block ≠ _; rw [add_block]; exact hn266_0) | exact hn266_0) (.int .u64 ((rd_T53 l0 x7_1).f0))).trans hx266_0; replace hx266_1 := (cell_far (p := ⟨gb265, 0, none⟩) (by first | (rw [add_block]; exact hn266_0) | (show (Addr.add _ _).block ≠ _; rw [add_block]; exact hn266_0) | exact hn266_0) (.int .u64 ((rd_T53 l0 x7_1).f0))).trans hx266_1; replace hx266_0 := (cell_far (p := ⟨gb265, 1, none⟩) (by first | (rw [add_block]; exact hn266_1) | (show (Addr.add _ _).block ≠ _; rw [add_block]; exact hn266_1) | exact hn266_1) (.int .i64 ((rd_T53 l0 x7_1).f1))).trans hx266_0; replace hx266_1 := (cell_far (p := ⟨gb265, 1, none⟩) (by first | (rw [add_block]; exact hn266_1) | (show (Addr.add _ _).block ≠ _; rw [add_block]; exact hn266_1) | exact hn266_1) (.int .i64 ((rd_T53 l0 x7_1).f1))).trans hx266_1; (try have hy266_0 := fun (n_ : Nat) => (show ((((w15.drewN n_).setCell ⟨gb265, 0, none⟩ (.int .u64 ((rd_T53 l0 x7_1).f0))).setCell ⟨gb265, 1, none⟩ (.int .i64 ((rd_T53 l0 x7_1).f1)))).cell? _ = some _ from hx266_0)); (try have hy266_1 := fun (n_ : Nat) => (show ((((w15.drewN n_).setCell ⟨gb265, 0, none⟩ (.int .u64 ((rd_T53 l0 x7_1).f0))).setCell ⟨gb265, 1, none⟩ (.int .i64 ((rd_T53 l0 x7_1).f1)))).cell? _ = some _ from hx266_1)); clear hn266_0; clear hn266_1; replace p266 := eq_true p266; replace q266 := eq_true q266)))
                      go_roundg k1
                      case measure => have := HK1.out; omega
                      case rel => exact ⟨(wrap64 (x7_1 + 1)), (by first | rfl | (simp; done) | (simp [*]; done)), H', ⟨by have := HK1.out; omega⟩, ⟨by repeat (first | (with_reducible first | exact HB.out | apply below_alloc | apply pw_below_drewN | apply below_drew1 | refine below_set ?_ GE265.out) | exact HB.out)⟩⟩
                  · rw [if_neg c11] at H
                    exact absurd H (by simp)
                · rw [if_neg c10] at H
                  exact absurd H (by simp)
              · rw [if_neg c8] at H
                have c8b0 : decide (0 < x7_1) = false := decide_eq_false c8
                clear c8
                have H' := Aside0.mk H
                clear H
                have p264 : 0 ≤ (x7_1 : Int) := of_decide_eq_true (by first | (with_reducible assumption) | assumption)
                have q264 : x7_1 < (l0.length : Int) := of_decide_eq_true (by first | (with_reducible assumption) | assumption)
                obtain ⟨ad264, e264, hx264_0, hx264_1⟩ := at_T53 HR0.out x7_1 p264 q264
                cases e264
                replace hx264_0 := (HB.out.cell (World.block_lt_of_cell? w _ hx264_0)).trans hx264_0
                replace hx264_1 := (HB.out.cell (World.block_lt_of_cell? w _ hx264_1)).trans hx264_1
                replace p264 := eq_true p264
                replace q264 := eq_true q264
                go_wp2_with (first | ((with_reducible refine gate_dst (N := 4) rfl ?_); refine box_event ?hg (N := 4) ?hd (cs := #[.int .u64 0, .int .i64 0]) (t := 53) ?hr ?_; (case hd => rfl); (case hg => rfl); (case hr => first | (go_simp; done) | (go_simp; rfl)); intro gb265 hg w17 hbox hb; have n0_ := Aside0.mk (below_step (by repeat (first | (with_reducible first | exact HB.out | apply below_alloc | apply pw_below_drewN | apply below_drew1) | exact HB.out)) hb); have n1_ := Aside0.mk (hbox); have n2_ := Aside0.mk ((by rw [hg]; exact (below_size (by repeat (first | (with_reducible first | exact HB.out | apply below_alloc | apply pw_below_drewN | apply below_drew1) | exact HB.out))) : w.heap.size ≤ gb265)); have n3_ := Aside0.mk ((by rw [hg]; exact (below_size (by repeat (first | (with_reducible first | exact HB.out | apply below_alloc | apply pw_below_drewN | apply below_drew1) | exact HB.out))) : w.heap.size ≤ gb265)); clear HB; have HB := n0_; have BK265 := n1_; have GW265 := n2_; have GE265 := n3_; clear n0_ n1_ n2_ n3_; clear hb hbox hg; have hcz18_0 : w17.cell? ⟨gb265, 0, none⟩ = some (.int .u64 0) := (blk_cell BK265.out 0).trans rfl; have hcz18_1 : w17.cell? ⟨gb265, 1, none⟩ = some (.int .i64 0) := (blk_cell BK265.out 1).trans rfl; have hfz18_0 := blk_frozen BK265.out 0; have hfz18_1 := blk_frozen BK265.out 1))
                repeat (go_quiet (first | ((with_reducible refine gate_dst (N := 4) rfl ?_); refine box_event ?hg (N := 4) ?hd (cs := #[.int .u64 0, .int .i64 0]) (t := 53) ?hr ?_; (case hd => rfl); (case hg => rfl); (case hr => first | (go_simp; done) | (go_simp; rfl)); intro gb265 hg w17 hbox hb; have n0_ := Aside0.mk (below_step (by repeat (first | (with_reducible first | exact HB.out | apply below_alloc | apply pw_below_drewN | apply below_drew1) | exact HB.out)) hb); have n1_ := Aside0.mk (hbox); have n2_ := Aside0.mk ((by rw [hg]; exact (below_size (by repeat (first | (with_reducible first | exact HB.out | apply below_alloc | apply pw_below_drewN | apply below_drew1) | exact HB.out))) : w.heap.size ≤ gb265)); have n3_ := Aside0.mk ((by rw [hg]; exact (below_size (by repeat (first | (with_reducible first | exact HB.out | apply below_alloc | apply pw_below_drewN | apply below_drew1) | exact HB.out))) : w.heap.size ≤ gb265)); clear HB; have HB := n0_; have BK265 := n1_; have GW265 := n2_; have GE265 := n3_; clear n0_ n1_ n2_ n3_; clear hb hbox hg; have hcz18_0 : w17.cell? ⟨gb265, 0, none⟩ = some (.int .u64 0) := (blk_cell BK265.out 0).trans rfl; have hcz18_1 : w17.cell? ⟨gb265, 1, none⟩ = some (.int .i64 0) := (blk_cell BK265.out 1).trans rfl; have hfz18_0 := blk_frozen BK265.out 0; have hfz18_1 := blk_frozen BK265.out 1)); try go_wp2_with (first | ((with_reducible refine gate_dst (N := 4) rfl ?_); refine box_event ?hg (N := 4) ?hd (cs := #[.int .u64 0, .int .i64 0]) (t := 53) ?hr ?_; (case hd => rfl); (case hg => rfl); (case hr => first | (go_simp; done) | (go_simp; rfl)); intro gb265 hg w17 hbox hb; have n0_ := Aside0.mk (below_step (by repeat (first | (with_reducible first | exact HB.out | apply below_alloc | apply pw_below_drewN | apply below_drew1) | exact HB.out)) hb); have n1_ := Aside0.mk (hbox); have n2_ := Aside0.mk ((by rw [hg]; exact (below_size (by repeat (first | (with_reducible first | exact HB.out | apply below_alloc | apply pw_below_drewN | apply below_drew1) | exact HB.out))) : w.heap.size ≤ gb265)); have n3_ := Aside0.mk ((by rw [hg]; exact (below_size (by repeat (first | (with_reducible first | exact HB.out | apply below_alloc | apply pw_below_drewN | apply below_drew1) | exact HB.out))) : w.heap.size ≤ gb265)); clear HB; have HB := n0_; have BK265 := n1_; have GW265 := n2_; have GE265 := n3_; clear n0_ n1_ n2_ n3_; clear hb hbox hg; have hcz18_0 : w17.cell? ⟨gb265, 0, none⟩ = some (.int .u64 0) := (blk_cell BK265.out 0).trans rfl; have hcz18_1 : w17.cell? ⟨gb265, 1, none⟩ = some (.int .i64 0) := (blk_cell BK265.out 1).trans rfl; have hfz18_0 := blk_frozen BK265.out 0; have hfz18_1 := blk_frozen BK265.out 1)))
                go_roundg k1
                case measure => have := HK1.out; omega
                case rel => exact ⟨(wrap64 (x7_1 + 1)), (by first | rfl | (simp; done) | (simp [*]; done)), H', ⟨by have := HK1.out; omega⟩, ⟨by repeat (first | (with_reducible first | exact HB.out | apply below_alloc | apply pw_below_drewN | apply below_drew1 | refine below_set ?_ GE265.out) | exact HB.out)⟩⟩
          · rw [if_neg c4] at H
            exact absurd H (by simp)
        · rw [if_neg c3] at H
          exact absurd H (by simp)
      · rw [if_neg c2] at H
        have c2b0 : decide (x7_1 < (l0.length : Int)) = false := decide_eq_false c2
        clear c2
        obtain rfl := Option.some.inj H
        go_wp2
        repeat (go_quiet (fail); try go_wp2)
        go_ret
        exact ⟨by first | rfl | (simp [errW_none, errW_some] <;> rfl) | (simp [*, errW_none, errW_some] <;> rfl), by repeat (first | (with_reducible first | exact HB.out | apply below_alloc | apply pw_below_drewN | apply below_drew1) | exact HB.out)⟩
def slices_Repeat_uint64_uint64.f (l0 : List Int) (a1 : Int) : Option (List Int) := if l0.length = 1 then (if 0 ≤ a1 ∧ a1 ≤ 1000000 then some (List.replicate a1.toNat (rd l0 0)) else none) else none
set_option maxHeartbeats 8000000 in
set_option maxRecDepth 100000 in
theorem slices_Repeat_uint64_uint64.calls (A0 : Option Addr) (c0 : Nat) (l0 : List Int) (a1 : Int) (r : List Int) (w : World) (hr0 : Kd.C (Kd.int .u64) w A0 l0.length l0) (hc0 : l0.length ≤ c0) (h : slices_Repeat_uint64_uint64.f l0 a1 = some r) :
    Calls Try.prog 88 #[.slice A0 l0.length c0, .int .i64 a1] w fun e w' => ∃ v0_ : Value, e = .returned (v0_) ∧ Kd.R (Kd.int .u64) 51 w' w.heap.size (fun _ => True) v0_ r ∧ Below w.heap.size w w' := by
  unfold slices_Repeat_uint64_uint64.f at h
  by_cases hl : l0.length = 1
  case neg => rw [if_neg hl] at h; exact absurd h (by simp)
  rw [if_pos hl] at h
  by_cases ha : 0 ≤ a1 ∧ a1 ≤ 1000000
  case neg => rw [if_neg ha] at h; exact absurd h (by simp)
  rw [if_pos ha] at h
  obtain rfl := Option.some.inj h
  clear h
  have c1 : decide (a1 < 0) = false := decide_eq_false (by omega)
  have hm : ∀ w : World, Calls Try.prog 102 #[.int .u64 1, .int .u64 a1] w fun e w' => e = .returned (.tuple #[.int .u64 0, .int .u64 a1]) ∧ w' = w := fun w => by
    have m := Try.bits_Mul 1 a1.toNat (by omega) (by omega) w
    rw [show 1 * a1.toNat / 18446744073709551616 = 0 by omega, show 1 * a1.toNat % 18446744073709551616 = a1.toNat by omega] at m
    rw [Int.toNat_of_nonneg ha.1] at m
    exact m
  have c2 : decide (9223372036854775807 < a1) = false := decide_eq_false (by omega)
  obtain ⟨i0, hi, hz0, hz1, hz2⟩ := info_parts info51
  obtain ⟨N, hN⟩ : ∃ N, N = a1.toNat := ⟨_, rfl⟩
  have hmk : ∀ w, (Instr.makeSlice 38 (.int .i64 a1) (.int .i64 a1)).run Try.prog w = .ok (.slice (some ⟨w.heap.size, 0, none⟩) N N) (w.alloc (.cells (List.replicate N (Value.int .u64 0)).toArray 51)) := fun w => by
    have h := run_make (P := Try.prog) w 38 51 i0 _ Try.underlying38 hi hz0 .i64 .i64 a1 a1 ha.1 (Int.le_refl _) (by rw [hz2]; omega) (by omega)
    rw [h, ← hN, hz1]
    congr 2
    congr 1
    apply Array.ext
    · simp [madeCells]
    · intro j h1 h2
      simp [madeCells, Value.cells, Nat.mod_one]
  have hN' := Aside0.mk hN
  have HMK := Aside0.mk hmk
  clear hmk
  have hszE : (Try.prog.info? 51).map (·.size) = some 1 := by rw [hi]; simp [hz1]
  obtain ⟨X, rfl⟩ := List.length_eq_one_iff.mp hl
  obtain ⟨A, hA⟩ : ∃ A, A0 = some A ∧ w.cell? A = some (.int .u64 X) := by
    obtain ⟨ad, e, hx⟩ := Kd.at_int hr0 0 (by omega) (by simp)
    exact ⟨ad, e, by simpa [Addr.add, rd] using hx⟩
  obtain ⟨rfl, hcell⟩ := hA
  clear hN hl
  have hu38 := Try.underlying38
  have hAlt : A.block < w.heap.size := by
    rcases Nat.lt_or_ge A.block w.heap.size with h' | h'
    · exact h'
    · simp [World.cell?, Array.getElem?_eq_none h'] at hcell
  have hcp : ∀ w3, Below w.heap.size w w3 → ∀ (j : Nat) v, (List.replicate (Nat.min 1 N) (Value.int .u64 X))[j]? = some v → w3.cell? (A.add j) = some v := fun w3 hb j v hv => by
    rw [List.getElem?_replicate] at hv
    split at hv
    · rename_i hj
      obtain rfl : j = 0 := by have h_ : Nat.min 1 N ≤ 1 := Nat.min_le_left 1 N; omega
      obtain rfl := Option.some.inj hv
      rw [show A.add 0 = A by simp [Addr.add], hb.cell hAlt]
      exact hcell
    · cases hv
  show Calls Try.prog 88 #[.slice (some A) 1 c0, .int .i64 a1] w _
  go_enter Try.func88, Try.ntmps88
  go_wp2_with (first | (go_at_call 102; (with_reducible refine (hm _).mono ?_); rintro e w2 ⟨rfl, rfl⟩) | ((with_reducible refine gate_dst (N := 30) rfl ?_); (refine Build.make_event rfl (D := 30) rfl (cs := (List.replicate N (Value.int .u64 0)).toArray) (t := 51) N N ?hr ?_); (case hr => (have h_ := HMK.out w2); first | (go_simp; done) | (go_simp; rfl) | (go_simp; rw [h_]; rfl)); intro g hg w3 hblk hb; subst hg) | ((with_reducible refine gate_dst (N := 33) rfl ?_); (refine wpList_copy_splice rfl (.tmp 31) (.tmp 32) 38 38 rfl 51 Try.underlying38 hszE _ _ _ _ _ _ rfl rfl w2.heap.size 0 (List.replicate N (.int .u64 0)) 51 (by first | exact hblk | simpa using hblk) (List.replicate (Nat.min 1 N) (.int .u64 X)) (by simp) ?hpos ?hfit ?h1 w2.heap.size w2 hb (Nat.le_refl _) ?_); (case hpos => intro h0_; exact ⟨rfl, A, rfl, fun j v hv => hcp w3 hb j v hv⟩); (case hfit => simp only [List.length_replicate, Nat.zero_add]; exact Nat.min_le_right 1 N); (case h1 => intro v hv; rw [List.eq_of_mem_replicate hv]; rfl); intro w4 hblk4 hb4))
  have HBK := Aside0.mk hblk4
  have HB4 := Aside0.mk hb4
  clear hblk4 hb4 hcp hblk hb
  obtain ⟨Z, hZ⟩ : ∃ Z, Z = Value.int .u64 0 := ⟨_, rfl⟩
  go_loopg [8] (N + 1) (fun kq v8 w' => ∃ n9 : Int, v8 = .int .i64 n9 ∧ Aside0 (0 ≤ n9 ∧ n9 ≤ N ∧ (N : Int) + 1 ≤ kq + n9 ∧ (0 < N → 1 ≤ n9)) ∧ Aside0 (w'.heap[w2.heap.size]? = some (.cells (List.replicate n9.toNat (Value.int .u64 X) ++ List.replicate (N - n9.toNat) (Value.int .u64 0)).toArray 51 (0, 0))) ∧ Aside0 (Below w2.heap.size w2 w'))
  case atStart =>
    refine ⟨((Nat.min 1 N : Nat) : Int), (by first | rfl | (simp; done) | (simp [goInt]; done)), ⟨by have h1_ : Nat.min 1 N ≤ N := Nat.min_le_right 1 N; have h2_ : 0 < N → Nat.min 1 N = 1 := fun h => Nat.min_eq_left h; omega⟩, ⟨?_⟩, HB4⟩
    refine Eq.trans HBK.out ?_
    congr 2
    simp [splice]
  case round =>
    clear HBK HB4
    obtain ⟨n9, rfl, HK, HBK, HB⟩ := hrel
    cases gk with
    | zero => have := HK.out; exact absurd this (by omega)
    | succ k1 =>
      by_cases hi9 : n9 < (N : Int)
      · have d5 : decide (n9 < (N : Int)) = true := decide_eq_true hi9
        have hk9 := HK.out
        have p9 : 0 ≤ n9 := by omega
        have q9 : n9 ≤ (N : Int) := by omega
        have hne := eq_false (show ¬ N = n9.toNat by omega)
        have hm1 : Nat.min n9.toNat (N - n9.toNat) ≤ n9.toNat := Nat.min_le_left _ _
        have hm2 : Nat.min n9.toNat (N - n9.toNat) ≤ N - n9.toNat := Nat.min_le_right _ _
        have hm3 : 0 < Nat.min n9.toNat (N - n9.toNat) := by rw [show ∀ a b, Nat.min a b = min a b from fun _ _ => rfl]; omega
        have hsrc : ∀ (j : Nat) v, (List.replicate (Nat.min n9.toNat (N - n9.toNat)) (Value.int .u64 X))[j]? = some v → wr.cell? (Addr.add ⟨w2.heap.size, 0, none⟩ j) = some v := fun j v hv => by
          rw [List.getElem?_replicate] at hv
          split at hv
          · rename_i hj
            obtain rfl := Option.some.inj hv
            rw [show Addr.add ⟨w2.heap.size, 0, none⟩ j = ⟨w2.heap.size, j, none⟩ by unfold Addr.add; split <;> simp_all]
            unfold World.cell?
            simp only [HBK.out]
            have hjn : j < n9.toNat := by omega
            simp [List.getElem?_append_left, hjn]
          · cases hv
        obtain ⟨M, hM⟩ : ∃ M, M = Nat.min n9.toNat (N - n9.toNat) := ⟨_, rfl⟩
        rw [← hM] at hm1 hm2 hm3 hsrc
        have hM' := Aside0.mk hM
        clear hM
        go_wp2
        go_region_law (refine step_copy_splice rfl (.tmp 41) (.tmp 44) 38 38 rfl 51 Try.underlying38 hszE (some ⟨w2.heap.size, n9.toNat, none⟩) (some ⟨w2.heap.size, 0, none⟩) (N - n9.toNat) (N - n9.toNat) n9.toNat N (by simp [Act.eval, Act.put, hne]) (by simp [Act.eval, Act.put]) w2.heap.size n9.toNat (List.replicate n9.toNat (Value.int .u64 X) ++ List.replicate (N - n9.toNat) (Value.int .u64 0)) 51 HBK.out (List.replicate M (Value.int .u64 X)) (by rw [List.length_replicate]; exact hM'.out) (fun _ => ⟨rfl, _, rfl, hsrc⟩) (by simp only [List.length_append, List.length_replicate]; omega) (fun v hv => by rw [List.eq_of_mem_replicate hv]; rfl) w2.heap.size w2 (by first | exact HB.out | exact below_drew1 HB.out) (Nat.le_refl _) ?_; intro w4 hg4 hb4)
        have hw : IntKind.i64.wrap (n9 + (M : Int)) = n9 + (M : Int) := by rw [IntKind.wrap_i64]; have := hN'.out; omega
        go_wp2
        go_roundg k1
        case measure => omega
        case rel =>
          refine ⟨n9 + (M : Int), (by first | rfl | (simp; done) | (simp [hw]; done) | (simp [goInt, hw]; done)), ⟨by omega⟩, ⟨Eq.trans hg4 ?_⟩, ⟨hb4⟩⟩
          have e1 : (n9 + (M : Int)).toNat = n9.toNat + M := by omega
          rw [e1]
          congr 2
          unfold splice
          rw [List.length_replicate, List.take_left' (List.length_replicate ..), ← List.drop_drop, List.drop_left' (List.length_replicate ..), List.drop_replicate, ← List.append_assoc, List.replicate_append_replicate, show N - n9.toNat - M = N - (n9.toNat + M) by omega]
      · have d5 : decide (n9 < (N : Int)) = false := decide_eq_false hi9
        have hk9 := HK.out
        go_wp2
        go_ret
        have hn9 : n9.toNat = N := by omega
        refine ⟨_, rfl, Kd.R_of_own (enc := Value.int .u64) (h1 := fun _ => rfl) ?_ (fun _ _ => trivial), HB.out⟩
        have hb9 := HBK.out
        rw [hn9, Nat.sub_self] at hb9
        have hNN := hN'.out
        refine ⟨by simp [encs], .inr ⟨w2.heap.size, N, _, by simp [← hNN], Nat.le_refl _, hb9, by simp [← hNN], by unfold maxLen; omega, by simp, by simp [encs, ← hNN, rd]⟩⟩
end Go.Proofs.Ytbgjoiccehiglaa.Print
end
section
namespace Go.Proofs.Ytbgjoiccehiglaa.Print
open Go.RowKit Go.Proofs.YtbgjoiccehiglaaW.PrintWords Go.Proofs.YtbgjoiccehiglaaW.PrintLast Go.Proofs.YtbgjoiccehiglaaW.PrintMore
attribute [local go_sem] max2_int min2_int max_two min_two max_three min_three max_four min_four
set_option linter.unusedVariables false
set_option linter.unusedSimpArgs false
theorem eqA53 (d : Nat) (w : World) (x0 y0 : Int) (x1 y1 : Int) :
    (Op.equalIn (d + 2) 53 (.agg #[.int .u64 x0, .int .i64 x1]) (.agg #[.int .u64 y0, .int .i64 y1])).run Try.prog w = .ok (x0 == y0 && (x1 == y1)) w := by
  refine eqA_of Try.underlying53 (by kernel_rfl) ?_
  refine eqf_cons (by rfl) (by go_simp; rfl) (by go_simp; rfl) (by go_simp) ?_
  exact eqf_last (by rfl) (by go_simp; rfl) (by go_simp; rfl) (by go_simp)
end Go.Proofs.Ytbgjoiccehiglaa.Print
end
section
namespace Go.Proofs.Ytbgjoiccehiglaa.Print
open Go.RowKit Go.Proofs.YtbgjoiccehiglaaW.PrintWords Go.Proofs.YtbgjoiccehiglaaW.PrintLast Go.Proofs.YtbgjoiccehiglaaW.PrintMore
attribute [local go_sem] max2_int min2_int max_two min_two max_three min_three max_four min_four
set_option linter.unusedVariables false
set_option linter.unusedSimpArgs false
attribute [local go_sem high] eqA53
mutual
def runs_Spread.j0 : Nat → List (S53) → Int → Bool → Option (List Int × Bool)
  | 0, _, _, _ => none
  | k + 1, x0, x1, x15 => if x15 = true then (some (([] : List Int), false)) else (runs_Spread.l0 k x1 ([] : List Int) x0 (x0.length : Int) 0)
def runs_Spread.l0 : Nat → Int → List Int → List (S53) → Int → Int → Option (List Int × Bool)
  | 0, _, _, _, _, _ => none
  | k + 1, x1, x6, x16, x17, x18 => if x18 < x17 then (if 0 ≤ x18 then (if x18 < (x16.length : Int) then (if ((rd_T53 x16 x18).f1) > (wrap64 (x1 - (x6.length : Int))) then (some (([] : List Int), false)) else ((slices_Repeat_uint64_uint64.f (([(rd_T53 x16 x18).f0] : List Int)) ((rd_T53 x16 x18).f1)).bind fun t275 => (if x6.length + t275.length < 17592186044416 then (runs_Spread.l0 k x1 (x6 ++ t275) x16 x17 (wrap64 (x18 + 1))) else (none)))) else (none)) else (none)) else (some (x6, true))
end
def runs_Spread.f (k : Nat) (l0 : List (S53)) (a1 : Int) : Option (List Int × Bool) := (runs_May.f k l0).bind fun t269 => (if t269 = true then (runs_Spread.j0 k l0 a1 (decide (a1 < 0))) else (runs_Spread.j0 k l0 a1 true))
theorem runs_Spread.mono_l : ∀ k, (∀ y0 y1 y2, LeO (runs_Spread.j0 k y0 y1 y2) (runs_Spread.j0 (k + 1) y0 y1 y2)) ∧ (∀ y0 y1 y2 y3 y4, LeO (runs_Spread.l0 k y0 y1 y2 y3 y4) (runs_Spread.l0 (k + 1) y0 y1 y2 y3 y4))
  | 0 => ⟨fun _ _ _ r h => by simp [runs_Spread.j0] at h, fun _ _ _ _ _ r h => by simp [runs_Spread.l0] at h⟩
  | k + 1 => by
    obtain ⟨ih0, ih1⟩ := runs_Spread.mono_l k
    refine ⟨?_, ?_⟩
    · intro y0 y1 y2
      unfold runs_Spread.j0
      repeat' first
      | (with_reducible exact ih0 _ _ _)
      | (with_reducible exact ih1 _ _ _ _ _)
      | (with_reducible exact runs_May.mono _ _)
      | (with_reducible exact LeO.refl _)
      | (with_reducible exact LeO.none _)
      | (with_reducible refine LeO.ite ?_ ?_)
      | (with_reducible refine LeO.bind ?_ (fun _ => ?_))
      | exact ih0 _ _ _
      | exact ih1 _ _ _ _ _
      | exact runs_May.mono _ _
      | exact LeO.none _
      | refine LeO.ite ?_ ?_
      | refine LeO.bind ?_ (fun _ => ?_)
    · intro y0 y1 y2 y3 y4
      unfold runs_Spread.l0
      repeat' first
      | (with_reducible exact ih0 _ _ _)
      | (with_reducible exact ih1 _ _ _ _ _)
      | (with_reducible exact runs_May.mono _ _)
      | (with_reducible exact LeO.refl _)
      | (with_reducible exact LeO.none _)
      | (with_reducible refine LeO.ite ?_ ?_)
      | (with_reducible refine LeO.bind ?_ (fun _ => ?_))
      | exact ih0 _ _ _
      | exact ih1 _ _ _ _ _
      | exact runs_May.mono _ _
      | exact LeO.none _
      | refine LeO.ite ?_ ?_
      | refine LeO.bind ?_ (fun _ => ?_)
theorem runs_Spread.mono : ∀ a0 a1 k, LeO (runs_Spread.f k a0 a1) (runs_Spread.f (k + 1) a0 a1) := by
  intro a0 a1 k
  obtain ⟨ih0, ih1⟩ := runs_Spread.mono_l k
  unfold runs_Spread.f
  repeat' first
      | (with_reducible exact ih0 _ _ _)
      | (with_reducible exact ih1 _ _ _ _ _)
      | (with_reducible exact runs_May.mono _ _)
      | (with_reducible exact LeO.refl _)
      | (with_reducible exact LeO.none _)
      | (with_reducible refine LeO.ite ?_ ?_)
      | (with_reducible refine LeO.bind ?_ (fun _ => ?_))
      | exact ih0 _ _ _
      | exact ih1 _ _ _ _ _
      | exact runs_May.mono _ _
      | exact LeO.none _
      | refine LeO.ite ?_ ?_
      | refine LeO.bind ?_ (fun _ => ?_)
set_option maxHeartbeats 8000000 in
set_option maxRecDepth 100000 in
theorem runs_Spread.calls (k : Nat) (A0 : Option Addr) (c0 : Nat) (l0 : List (S53)) (a1 : Int) (r1 : List Int) (r2 : Bool) (w : World) (hr0 : Kd.C k53 w A0 l0.length l0) (hc0 : l0.length ≤ c0) (h : runs_Spread.f k l0 a1 = some (r1, r2)) :
    Calls Try.prog 39 #[.slice A0 l0.length c0, .int .i64 a1] w fun e w' => ∃ v0_ : Value, e = .returned (.tuple #[v0_, .bool r2]) ∧ Kd.R (Kd.int .u64) 51 w' w.heap.size (fun _ => True) v0_ r1 ∧ Below w.heap.size w w' := by
  have hu53 := Try.underlying53
  have HR0 := Aside0.mk hr0
  have HC0 := Aside0.mk hc0
  clear hr0 hc0
  have HB := Aside0.mk (Below.refl w.heap.size w)
  have H : ((runs_May.f k l0).bind fun t269 => (if t269 = true then (runs_Spread.j0 k l0 a1 (decide (a1 < 0))) else (runs_Spread.j0 k l0 a1 true))) = some (r1, r2) := h
  clear h
  have HC3 := Aside0.mk H
  clear H
  go_enter Try.func39, Try.ntmps39
  go_upto_region 1 with (fail)
  go_cut [15] (fun v15 wc => ∃ (kq : Nat) (x15_2 : Bool), v15 = .bool x15_2 ∧ Aside0 (runs_Spread.j0 kq l0 a1 x15_2 = some (r1, r2)) ∧ Aside0 (kq ≤ k) ∧ Aside0 (Below w.heap.size w wc))
  case first =>
    have H := HC3.out
    clear HC3
    replace H := Option.bind_eq_some_iff.mp H
    obtain ⟨t269, A40, H⟩ := H
    replace H : (if t269 = true then (runs_Spread.j0 k l0 a1 (decide (a1 < 0))) else (runs_Spread.j0 k l0 a1 true)) = some (r1, r2) := H
    have A4 := Aside0.mk A40
    clear A40
    by_cases c5 : t269 = true
    · subst c5
      have H1 : (runs_Spread.j0 k l0 a1 (decide (a1 < 0))) = some (r1, r2) := by rw [if_pos rfl] at H; exact H
      clear H
      have H := H1
      clear H1
      have H' := Aside0.mk H
      clear H
      go_wp2_with (first | ((with_reducible refine gate_callee (f := 46) rfl ?_); refine goesL_ (some 10) rfl rfl Try.func46 (by kernel_rfl) rfl #[.slice A0 l0.length c0] rfl (by (try simp only [List.map_toArray, List.map_cons, List.map_nil]); first | done | rfl | (simp only [List.length_drop, List.length_take]; rfl)) ?_; (with_reducible refine (runs_May.calls k _ _ l0 true _ ?side1 ?side2 A4.out).mono ?_); (case side1 => repeat (first | exact (Kd.C_below HR0.out HB.out) | (with_reducible refine Kd.C_alloc ?_ _) | (with_reducible refine Kd.C_drewN ?_ _) | (with_reducible refine Kd.C_drew ?_))); (case side2 => exact HC0.out); rintro e w6 ⟨rfl, hb⟩; refine ⟨_, rfl, ?_⟩; have n0_ := Aside0.mk (below_step (by repeat (first | (with_reducible first | exact HB.out | apply below_alloc | apply pw_below_drewN | apply below_drew1) | exact HB.out)) hb); clear HB; have HB := n0_; clear n0_; (try clear hb); (try clear hb2); (try clear hk); (try clear hi)))
      go_meet
      case rel => exact ⟨_, (decide (a1 < 0)), (by first | rfl | (simp; done) | (simp [*]; done)), H', ⟨by first | omega | exact Nat.le_refl _⟩, ⟨by repeat (first | (with_reducible first | exact HB.out | apply below_alloc | apply pw_below_drewN | apply below_drew1) | exact HB.out)⟩⟩
    · replace c5 := Bool.eq_false_iff.mpr c5
      subst c5
      have H1 : (runs_Spread.j0 k l0 a1 true) = some (r1, r2) := by rw [if_neg (show ¬ (false = true) by decide)] at H; exact H
      clear H
      have H := H1
      clear H1
      have H' := Aside0.mk H
      clear H
      go_wp2_with (first | ((with_reducible refine gate_callee (f := 46) rfl ?_); refine goesL_ (some 10) rfl rfl Try.func46 (by kernel_rfl) rfl #[.slice A0 l0.length c0] rfl (by (try simp only [List.map_toArray, List.map_cons, List.map_nil]); first | done | rfl | (simp only [List.length_drop, List.length_take]; rfl)) ?_; (with_reducible refine (runs_May.calls k _ _ l0 false _ ?side1 ?side2 A4.out).mono ?_); (case side1 => repeat (first | exact (Kd.C_below HR0.out HB.out) | (with_reducible refine Kd.C_alloc ?_ _) | (with_reducible refine Kd.C_drewN ?_ _) | (with_reducible refine Kd.C_drew ?_))); (case side2 => exact HC0.out); rintro e w7 ⟨rfl, hb⟩; refine ⟨_, rfl, ?_⟩; have n0_ := Aside0.mk (below_step (by repeat (first | (with_reducible first | exact HB.out | apply below_alloc | apply pw_below_drewN | apply below_drew1) | exact HB.out)) hb); clear HB; have HB := n0_; clear n0_; (try clear hb); (try clear hb2); (try clear hk); (try clear hi)))
      go_meet
      case rel => exact ⟨_, (true), (by first | rfl | (simp; done) | (simp [*]; done)), H', ⟨by first | omega | exact Nat.le_refl _⟩, ⟨by repeat (first | (with_reducible first | exact HB.out | apply below_alloc | apply pw_below_drewN | apply below_drew1) | exact HB.out)⟩⟩
  case rest =>
    clear HC3
    try clear p2
    try clear c3
    try clear c4
    try clear c5
    obtain ⟨kq, x15_2, rfl, HA, HJ2, HB⟩ := hcut
    cases kq with
    | zero => exact absurd HA.out (by simp [runs_Spread.j0])
    | succ kj2 =>
      have H := HA.out
      clear HA
      simp only [runs_Spread.j0] at H
      by_cases c8 : x15_2 = true
      · subst c8
        have H1 : (some (([] : List Int), false)) = some (r1, r2) := by rw [if_pos rfl] at H; exact H
        clear H
        have H := H1
        clear H1
        simp only [Option.some.injEq, Prod.mk.injEq] at H
        obtain ⟨rfl, rfl⟩ := H
        go_wp2
        go_ret2
        exact ⟨_, by first | rfl | (simp [errW_none, errW_some] <;> rfl) | (simp [*, errW_none, errW_some] <;> rfl), by first | exact Kd.R_nil _ _ _ _ _ | exact Kd.N_nil _ _ _ _ _ | exact Kd.V_nil _ _ _ _ _ | exact Kd.Q_nil _ _ _ _ _ | exact Kd.S_nil _ _ _ _ _, by repeat (first | (with_reducible first | exact HB.out | apply below_alloc | apply pw_below_drewN | apply below_drew1) | exact HB.out)⟩
      · replace c8 := Bool.eq_false_iff.mpr c8
        subst c8
        have H1 : (runs_Spread.l0 kj2 a1 ([] : List Int) l0 (l0.length : Int) 0) = some (r1, r2) := by rw [if_neg (show ¬ (false = true) by decide)] at H; exact H
        clear H
        have H := H1
        clear H1
        have H' := Aside0.mk H
        clear H
        go_wp2
        go_loopg [6, 18] kj2 (fun kq v6 v18 w' => ∃ (x6_2 : List Int) (x18_2 : Int), v18 = .int .i64 x18_2 ∧ Aside0 (runs_Spread.l0 kq a1 x6_2 l0 (l0.length : Int) x18_2 = some (r1, r2)) ∧ Aside0 (kq ≤ kj2) ∧ Aside0 (Kd.R (Kd.int .u64) 51 w' w.heap.size (fun _ => True) v6 x6_2) ∧ Aside0 (Below w.heap.size w w'))
        case atStart => exact ⟨(([] : List Int)), (0), (by first | rfl | (simp; done) | (simp [*]; done)), H', ⟨Nat.le_refl _⟩, ⟨by first | exact Kd.R_nil _ _ _ _ _ | exact Kd.N_nil _ _ _ _ _ | exact Kd.V_nil _ _ _ _ _ | exact Kd.Q_nil _ _ _ _ _ | exact Kd.S_nil _ _ _ _ _⟩, ⟨by repeat (first | (with_reducible first | exact HB.out | apply below_alloc | apply pw_below_drewN | apply below_drew1) | exact HB.out)⟩⟩
        case round =>
          clear H'
          try clear p2
          try clear c3
          try clear c4
          try clear c5
          try clear c8
          try clear p2
          obtain ⟨x6_2, x18_2, rfl, HA, HK2, HO_6, HB⟩ := hrel
          cases gk with
          | zero => exact absurd HA.out (by simp [runs_Spread.l0])
          | succ k2 =>
            have H := HA.out
            clear HA
            simp only [runs_Spread.l0] at H
            by_cases c9 : x18_2 < (l0.length : Int)
            · rw [if_pos c9] at H
              have c9b0 : decide (x18_2 < (l0.length : Int)) = true := decide_eq_true c9
              clear c9
              by_cases c10 : 0 ≤ x18_2
              · rw [if_pos c10] at H
                have c10b0 : decide (0 ≤ x18_2) = true := decide_eq_true c10
                clear c10
                by_cases c11 : x18_2 < (l0.length : Int)
                · rw [if_pos c11] at H
                  have c11b0 : decide (x18_2 < (l0.length : Int)) = true := decide_eq_true c11
                  clear c11
                  by_cases c12 : ((rd_T53 l0 x18_2).f1) > (wrap64 (a1 - (x6_2.length : Int)))
                  · rw [if_pos c12] at H
                    have c12b0 : decide ((wrap64 (a1 - (x6_2.length : Int))) < ((rd_T53 l0 x18_2).f1)) = true := decide_eq_true c12
                    clear c12
                    simp only [Option.some.injEq, Prod.mk.injEq] at H
                    obtain ⟨rfl, rfl⟩ := H
                    have p270 : 0 ≤ (x18_2 : Int) := of_decide_eq_true (by first | (with_reducible assumption) | assumption)
                    have q270 : x18_2 < (l0.length : Int) := of_decide_eq_true (by first | (with_reducible assumption) | assumption)
                    obtain ⟨ad270, e270, hx270_0, hx270_1⟩ := at_T53 HR0.out x18_2 p270 q270
                    cases e270
                    replace hx270_0 := (HB.out.cell (World.block_lt_of_cell? w _ hx270_0)).trans hx270_0
                    replace hx270_1 := (HB.out.cell (World.block_lt_of_cell? w _ hx270_1)).trans hx270_1
                    replace p270 := eq_true p270
                    replace q270 := eq_true q270
                    go_wp2_with (first | ((with_reducible refine gate_dst (N := 8) rfl ?_); refine box_event ?hg (N := 8) ?hd (cs := #[.int .u64 0, .int .i64 0]) (t := 53) ?hr ?_; (case hd => rfl); (case hg => rfl); (case hr => first | (go_simp; done) | (go_simp; rfl)); intro gb271 hg w13 hbox hb; have n0_ := Aside0.mk (Kd.R_below (by (with_reducible repeat (first | apply Kd.R_alloc | apply Kd.R_drewN | apply Kd.R_drew)); exact HO_6.out) hb); have n1_ := Aside0.mk (below_step (by repeat (first | (with_reducible first | exact HB.out | apply below_alloc | apply pw_below_drewN | apply below_drew1) | exact HB.out)) hb); have n2_ := Aside0.mk (hbox); have n3_ := Aside0.mk ((by rw [hg]; exact (below_size (by repeat (first | (with_reducible first | exact HB.out | apply below_alloc | apply pw_below_drewN | apply below_drew1) | exact HB.out))) : w.heap.size ≤ gb271)); have n4_ := Aside0.mk ((by rw [hg]; exact (below_size (by repeat (first | (with_reducible first | exact HB.out | apply below_alloc | apply pw_below_drewN | apply below_drew1) | exact HB.out))) : w.heap.size ≤ gb271)); clear HO_6; clear HB; have HO_6 := n0_; have HB := n1_; have BK271 := n2_; have GW271 := n3_; have GE271 := n4_; clear n0_ n1_ n2_ n3_ n4_; clear hb hbox hg; have hcz14_0 : w13.cell? ⟨gb271, 0, none⟩ = some (.int .u64 0) := (blk_cell BK271.out 0).trans rfl; have hcz14_1 : w13.cell? ⟨gb271, 1, none⟩ = some (.int .i64 0) := (blk_cell BK271.out 1).trans rfl; have hfz14_0 := blk_frozen BK271.out 0; have hfz14_1 := blk_frozen BK271.out 1; obtain ⟨Ao15, co15, eo15⟩ := Kd.R_slice HO_6.out; subst eo15))
                    go_ret2
                    exact ⟨_, by first | rfl | (simp [errW_none, errW_some] <;> rfl) | (simp [*, errW_none, errW_some] <;> rfl), by first | exact Kd.R_nil _ _ _ _ _ | exact Kd.N_nil _ _ _ _ _ | exact Kd.V_nil _ _ _ _ _ | exact Kd.Q_nil _ _ _ _ _ | exact Kd.S_nil _ _ _ _ _, by repeat (first | (with_reducible first | exact HB.out | apply below_alloc | apply pw_below_drewN | apply below_drew1 | refine below_set ?_ GE271.out) | exact HB.out)⟩
                  · rw [if_neg c12] at H
                    have c12b0 : decide ((wrap64 (a1 - (x6_2.length : Int))) < ((rd_T53 l0 x18_2).f1)) = false := decide_eq_false c12
                    clear c12
                    obtain ⟨y272, hy272⟩ : ∃ y_ : List Int, y_ = (([(rd_T53 l0 x18_2).f0] : List Int)) := ⟨_, rfl⟩
                    replace H : ((slices_Repeat_uint64_uint64.f y272 ((rd_T53 l0 x18_2).f1)).bind fun t275 => (if x6_2.length + t275.length < 17592186044416 then (runs_Spread.l0 k2 a1 (x6_2 ++ t275) l0 (l0.length : Int) (wrap64 (x18_2 + 1))) else (none))) = some (r1, r2) := by first | (rw [hy272]; with_reducible exact H) | (have H2_ := (Option.bind_some _ _).symm.trans H; rw [hy272]; with_reducible exact H2_) | (have H2_ := (Option.bind_some _ _).symm.trans H; with_reducible exact H2_) | with_reducible exact H | (rw [hy272]; exact H) | exact H
                    have Ny272 := Aside0.mk hy272
                    clear hy272
                    replace H := Option.bind_eq_some_iff.mp H
                    obtain ⟨t275, A160, H⟩ := H
                    replace H : (if x6_2.length + t275.length < 17592186044416 then (runs_Spread.l0 k2 a1 (x6_2 ++ t275) l0 (l0.length : Int) (wrap64 (x18_2 + 1))) else (none)) = some (r1, r2) := H
                    have A16 := Aside0.mk A160
                    clear A160
                    by_cases c17 : x6_2.length + t275.length < 17592186044416
                    · rw [if_pos c17] at H
                      have LMc17 := Aside0.mk c17
                      clear c17
                      obtain ⟨y278, hy278⟩ : ∃ y_ : List Int, y_ = (x6_2 ++ t275) := ⟨_, rfl⟩
                      replace H : (runs_Spread.l0 k2 a1 y278 l0 (l0.length : Int) (wrap64 (x18_2 + 1))) = some (r1, r2) := by first | (rw [hy278]; with_reducible exact H) | (have H2_ := (Option.bind_some _ _).symm.trans H; rw [hy278]; with_reducible exact H2_) | (have H2_ := (Option.bind_some _ _).symm.trans H; with_reducible exact H2_) | with_reducible exact H | (rw [hy278]; exact H) | exact H
                      have Ny278 := Aside0.mk hy278
                      clear hy278
                      have H' := Aside0.mk H
                      clear H
                      have p270 : 0 ≤ (x18_2 : Int) := of_decide_eq_true (by first | (with_reducible assumption) | assumption)
                      have q270 : x18_2 < (l0.length : Int) := of_decide_eq_true (by first | (with_reducible assumption) | assumption)
                      obtain ⟨ad270, e270, hx270_0, hx270_1⟩ := at_T53 HR0.out x18_2 p270 q270
                      cases e270
                      replace hx270_0 := (HB.out.cell (World.block_lt_of_cell? w _ hx270_0)).trans hx270_0
                      replace hx270_1 := (HB.out.cell (World.block_lt_of_cell? w _ hx270_1)).trans hx270_1
                      replace p270 := eq_true p270
                      replace q270 := eq_true q270
                      go_wp2_with (first | ((with_reducible refine gate_dst (N := 8) rfl ?_); refine box_event ?hg (N := 8) ?hd (cs := #[.int .u64 0, .int .i64 0]) (t := 53) ?hr ?_; (case hd => rfl); (case hg => rfl); (case hr => first | (go_simp; done) | (go_simp; rfl)); intro gb271 hg w18 hbox hb; have n0_ := Aside0.mk (Kd.R_below (by (with_reducible repeat (first | apply Kd.R_alloc | apply Kd.R_drewN | apply Kd.R_drew)); exact HO_6.out) hb); have n1_ := Aside0.mk (below_step (by repeat (first | (with_reducible first | exact HB.out | apply below_alloc | apply pw_below_drewN | apply below_drew1) | exact HB.out)) hb); have n2_ := Aside0.mk (hbox); have n3_ := Aside0.mk ((by rw [hg]; exact (below_size (by repeat (first | (with_reducible first | exact HB.out | apply below_alloc | apply pw_below_drewN | apply below_drew1) | exact HB.out))) : w.heap.size ≤ gb271)); have n4_ := Aside0.mk ((by rw [hg]; exact (below_size (by repeat (first | (with_reducible first | exact HB.out | apply below_alloc | apply pw_below_drewN | apply below_drew1) | exact HB.out))) : w.heap.size ≤ gb271)); clear HO_6; clear HB; have HO_6 := n0_; have HB := n1_; have BK271 := n2_; have GW271 := n3_; have GE271 := n4_; clear n0_ n1_ n2_ n3_ n4_; clear hb hbox hg; have hcz19_0 : w18.cell? ⟨gb271, 0, none⟩ = some (.int .u64 0) := (blk_cell BK271.out 0).trans rfl; have hcz19_1 : w18.cell? ⟨gb271, 1, none⟩ = some (.int .i64 0) := (blk_cell BK271.out 1).trans rfl; have hfz19_0 := blk_frozen BK271.out 0; have hfz19_1 := blk_frozen BK271.out 1; obtain ⟨Ao20, co20, eo20⟩ := Kd.R_slice HO_6.out; subst eo20) | ((with_reducible refine gate_dst (N := 32) rfl ?_); refine Kd.R_lit (Kd.int .u64) _ 51 ?hg (N := 32) ?hd (xs := ([(rd_T53 l0 x18_2).f0] : List Int)) (inner := [.int .u64 ((rd_T53 l0 x18_2).f0)]) (ok := fun _ => True) (okp := fun _ => True) ?hr ?hp (fun _ hk => hk) trivial (Below.refl _ _) (Nat.le_refl _) (by simp) ?_; (case hd => rfl); (case hg => rfl); (case hr => first | (go_simp; done) | (go_simp; rfl)); (case hp => exact (Reps.one (show Kd.M (Kd.int .u64) _ _ _ ((rd_T53 l0 x18_2).f0) [.int .u64 ((rd_T53 l0 x18_2).f0)] from rfl) (Reps.none _ _))); intro v273 w21 ho22 hb hg_ hnew_; clear hg_ hnew_; (first | rw [← Ny272.out] at ho22 | (simp only [Int.reduceToNat] at ho22; rw [← Ny272.out] at ho22)); have n0_ := Aside0.mk (Kd.R_elder' (by (with_reducible repeat (first | apply Kd.R_alloc | apply Kd.R_drewN | apply Kd.R_drew)); exact (Kd.R_mono (Kd.R_far (p := ⟨gb271, 1, none⟩) (Kd.R_far (p := ⟨gb271, 0, none⟩) (Kd.R_types HO_6.out BK271.out (by decide)) (fun _ hk => hk.2) (.int .u64 ((rd_T53 l0 x18_2).f0))) (fun _ hk => hk.2) (.int .i64 ((rd_T53 l0 x18_2).f1))) (fun _ h_ => h_.1))) (Kd.R_base ho22) hb); have n1_ := Aside0.mk (Kd.R_lower (Kd.R_new' ho22 (Kd.R_lt (by (with_reducible repeat (first | apply Kd.R_alloc | apply Kd.R_drewN | apply Kd.R_drew)); exact (Kd.R_mono (Kd.R_far (p := ⟨gb271, 1, none⟩) (Kd.R_far (p := ⟨gb271, 0, none⟩) (Kd.R_types HO_6.out BK271.out (by decide)) (fun _ hk => hk.2) (.int .u64 ((rd_T53 l0 x18_2).f0))) (fun _ hk => hk.2) (.int .i64 ((rd_T53 l0 x18_2).f1))) (fun _ h_ => h_.1))))) (below_size (by repeat (first | (with_reducible first | exact HB.out | apply below_alloc | apply pw_below_drewN | apply below_drew1 | refine below_set ?_ GE271.out) | exact HB.out)))); have n2_ := Aside0.mk (blk_below (g := gb271) (o := .cells #[.int .u64 ((rd_T53 l0 x18_2).f0), .int .i64 ((rd_T53 l0 x18_2).f1)] 53 (0, 0)) (by (with_reducible repeat (first | refine blk_drewN ?_ _ | refine blk_drew ?_ | refine blk_alloc ?_ _)); refine blk_put (cs := #[.int .u64 ((rd_T53 l0 x18_2).f0), .int .i64 0]) ?_ 1 _ rfl; (with_reducible repeat (first | refine blk_drewN ?_ _ | refine blk_drew ?_ | refine blk_alloc ?_ _)); refine blk_put (cs := #[.int .u64 0, .int .i64 0]) ?_ 0 _ rfl; (with_reducible repeat (first | refine blk_drewN ?_ _ | refine blk_drew ?_ | refine blk_alloc ?_ _)); exact BK271.out) hb); have n3_ := Aside0.mk (below_step (by repeat (first | (with_reducible first | exact HB.out | apply below_alloc | apply pw_below_drewN | apply below_drew1 | refine below_set ?_ GE271.out) | exact HB.out)) hb); clear HO_6; clear BK271; clear HB; have HO_6 := n0_; have HO274 := n1_; have BK271 := n2_; have HB := n3_; clear n0_ n1_ n2_ n3_; clear hb ho22; have hcz23_0 : w21.cell? ⟨gb271, 0, none⟩ = some (.int .u64 ((rd_T53 l0 x18_2).f0)) := (blk_cell BK271.out 0).trans rfl; have hcz23_1 : w21.cell? ⟨gb271, 1, none⟩ = some (.int .i64 ((rd_T53 l0 x18_2).f1)) := (blk_cell BK271.out 1).trans rfl; have hfz23_0 := blk_frozen BK271.out 0; have hfz23_1 := blk_frozen BK271.out 1; obtain ⟨Ao24, co24, eo24⟩ := Kd.R_slice HO274.out; subst eo24) | ((with_reducible refine gate_callee (f := 88) rfl ?_); refine goesL_ (some 35) rfl rfl Try.func88 (by kernel_rfl) rfl #[.slice Ao24 y272.length co24, .int .i64 ((rd_T53 l0 x18_2).f1)] rfl (by (try simp only [List.map_toArray, List.map_cons, List.map_nil]); first | done | rfl | (simp only [List.length_drop, List.length_take]; rfl)) ?_; (with_reducible refine (slices_Repeat_uint64_uint64.calls _ _ y272 ((rd_T53 l0 x18_2).f1) t275 _ ?side1 ?side2 A16.out).mono ?_); (case side1 => repeat (first | exact (Kd.R_reads' HO274.out).2.2 | (with_reducible refine Kd.C_alloc ?_ _) | (with_reducible refine Kd.C_drewN ?_ _) | (with_reducible refine Kd.C_drew ?_))); (case side2 => exact (Kd.R_reads' HO274.out).2.1); rintro e w25 ⟨v276, rfl, ho0, hb⟩; refine ⟨_, rfl, ?_⟩; have n0_ := Aside0.mk (Kd.R_elder' (by (with_reducible repeat (first | apply Kd.R_alloc | apply Kd.R_drewN | apply Kd.R_drew)); exact HO_6.out) (Kd.R_base ho0) hb); have n1_ := Aside0.mk (Kd.R_elder' (by (with_reducible repeat (first | apply Kd.R_alloc | apply Kd.R_drewN | apply Kd.R_drew)); exact HO274.out) (Kd.R_base ho0) hb); have n2_ := Aside0.mk (Kd.R_lower (Kd.R_new' (Kd.R_new' ho0 (Kd.R_lt (by (with_reducible repeat (first | apply Kd.R_alloc | apply Kd.R_drewN | apply Kd.R_drew)); exact HO_6.out))) (Kd.R_lt (by (with_reducible repeat (first | apply Kd.R_alloc | apply Kd.R_drewN | apply Kd.R_drew)); exact HO274.out))) (below_size (by repeat (first | (with_reducible first | exact HB.out | apply below_alloc | apply pw_below_drewN | apply below_drew1 | refine below_set ?_ GE271.out) | exact HB.out)))); have n3_ := Aside0.mk (blk_below (g := gb271) (o := .cells #[.int .u64 ((rd_T53 l0 x18_2).f0), .int .i64 ((rd_T53 l0 x18_2).f1)] 53 (0, 0)) (by (with_reducible repeat (first | refine blk_drewN ?_ _ | refine blk_drew ?_ | refine blk_alloc ?_ _)); exact BK271.out) hb); have n4_ := Aside0.mk (below_step (by repeat (first | (with_reducible first | exact HB.out | apply below_alloc | apply pw_below_drewN | apply below_drew1 | refine below_set ?_ GE271.out) | exact HB.out)) hb); clear HO_6; clear HO274; clear BK271; clear HB; have HO_6 := n0_; have HO274 := n1_; have HO277 := n2_; have BK271 := n3_; have HB := n4_; clear n0_ n1_ n2_ n3_ n4_; (try clear hb); (try clear hb2); (try clear hk); (try clear hi); (try clear ho0); obtain ⟨Ao27, co27, eo27⟩ := Kd.R_slice HO277.out; subst eo27) | ((with_reducible refine gate_builtin (b := .append) (xs := #[.tmp 29, .tmp 35]) rfl ?_); at_builtin; refine Kd.R_append_rows (Kd.int .u64) (w0 := w) w.heap.size rfl (.tmp 29) (.tmp 35) 38 51 (.int .u64 0) 8 rfl Try.underlying38 info51 rfl (by decide) (by omega) (.slice Ao20 x6_2.length co20) x6_2 t275 _ _ _ (fun k_ => some k_ ≠ (.slice Ao24 y272.length co24 : Value).ownBlock ∧ some k_ ≠ (.slice Ao27 t275.length co27 : Value).ownBlock) (fun _ => False) rfl rfl ?aO ?aR (fun _ _ h => h) (fun _ h => h.elim) ?aF ?aB ?aS ?aL ?_; (case aR => repeat (first | exact (Kd.R_reads' HO277.out).2.2 | (with_reducible refine Kd.C_alloc ?_ _) | (with_reducible refine Kd.C_drewN ?_ _) | (with_reducible refine Kd.C_drew ?_))); (case aB => exact (by repeat (first | (with_reducible first | exact HB.out | apply below_alloc | apply pw_below_drewN | apply below_drew1 | refine below_set ?_ GE271.out) | exact HB.out))); (case aF => exact (fun k_ hk => ⟨Kd.fresh' (Kd.R_lt (by (with_reducible repeat (first | apply Kd.R_alloc | apply Kd.R_drewN | apply Kd.R_drew)); exact HO274.out)) k_ hk, Kd.fresh' (Kd.R_lt (by (with_reducible repeat (first | apply Kd.R_alloc | apply Kd.R_drewN | apply Kd.R_drew)); exact HO277.out)) k_ hk⟩)); (case aO => exact (by (with_reducible repeat (first | apply Kd.R_alloc | apply Kd.R_drewN | apply Kd.R_drew)); exact Kd.R_mono HO_6.out (fun _ hk => ⟨hk.1.2, hk.2⟩))); (case aS => exact (below_size (by repeat (first | (with_reducible first | exact HB.out | apply below_alloc | apply pw_below_drewN | apply below_drew1 | refine below_set ?_ GE271.out) | exact HB.out)))); (case aL => have := LMc17.out; omega); intro v279 w26 ho hb hg hat; rw [← Ny278.out] at ho; have n0_ := Aside0.mk (blk_grown (g := gb271) (o := .cells #[.int .u64 ((rd_T53 l0 x18_2).f0), .int .i64 ((rd_T53 l0 x18_2).f1)] 53 (0, 0)) (by (with_reducible repeat (first | refine blk_drewN ?_ _ | refine blk_drew ?_ | refine blk_alloc ?_ _)); exact BK271.out) hg (Kd.R_ne HO_6.out BK271.out (by decide))); have n1_ := Aside0.mk (Kd.R_after (ok := (fun k_ => some k_ ≠ (.slice Ao27 t275.length co27 : Value).ownBlock)) (by (with_reducible repeat (first | apply Kd.R_alloc | apply Kd.R_drewN | apply Kd.R_drew)); exact Kd.R_mono HO274.out (fun _ hk => ⟨hk.2, hk.1.2⟩)) hg hat); have n2_ := Aside0.mk (Kd.R_after (ok := (fun k_ => some k_ ≠ (.slice Ao24 y272.length co24 : Value).ownBlock)) (by (with_reducible repeat (first | apply Kd.R_alloc | apply Kd.R_drewN | apply Kd.R_drew)); exact Kd.R_mono HO277.out (fun _ hk => ⟨hk.2, hk.1.2⟩)) hg hat); have n3_ := Aside0.mk (hb); have n4_ := Aside0.mk (ho); clear BK271; clear HO274; clear HO277; clear HB; clear HO_6; have BK271 := n0_; have HO274 := n1_; have HO277 := n2_; have HB := n3_; have HO280 := n4_; clear n0_ n1_ n2_ n3_ n4_; clear ho hb hg hat))
                      go_roundg k2
                      case measure => have := HJ2.out; have := HK2.out; omega
                      case rel => exact ⟨(y278), (wrap64 (x18_2 + 1)), (by first | rfl | (simp; done) | (simp [*]; done)), H', ⟨by have := HJ2.out; have := HK2.out; omega⟩, ⟨by (with_reducible repeat (first | apply Kd.R_alloc | apply Kd.R_drewN | apply Kd.R_drew)); exact Kd.R_mono HO280.out (fun _ hk => trivial)⟩, ⟨by repeat (first | (with_reducible first | exact HB.out | apply below_alloc | apply pw_below_drewN | apply below_drew1 | refine below_set ?_ GE271.out) | exact HB.out)⟩⟩
                    · rw [if_neg c17] at H
                      exact absurd H (by simp)
                · rw [if_neg c11] at H
                  exact absurd H (by simp)
              · rw [if_neg c10] at H
                exact absurd H (by simp)
            · rw [if_neg c9] at H
              have c9b0 : decide (x18_2 < (l0.length : Int)) = false := decide_eq_false c9
              clear c9
              simp only [Option.some.injEq, Prod.mk.injEq] at H
              obtain ⟨rfl, rfl⟩ := H
              go_wp2
              go_ret2
              exact ⟨_, by first | rfl | (simp [errW_none, errW_some] <;> rfl) | (simp [*, errW_none, errW_some] <;> rfl), by (with_reducible repeat (first | apply Kd.R_alloc | apply Kd.R_drewN | apply Kd.R_drew)); exact HO_6.out, by repeat (first | (with_reducible first | exact HB.out | apply below_alloc | apply pw_below_drewN | apply below_drew1) | exact HB.out)⟩
def runs_of_uint64.l0 : Nat → List (S98) → List Int → Int → Int → Option ((List (S98)))
  | 0, _, _, _, _ => none
  | k + 1, x3, x7, x8, x9 => if x9 < x8 then (if 0 ≤ x9 then (if x9 < (x7.length : Int) then (if (wrap64 ((x3.length : Int) - 1)) ≥ 0 then (if 0 ≤ (wrap64 ((x3.length : Int) - 1)) then (if (wrap64 ((x3.length : Int) - 1)) < (x3.length : Int) then (if ((rd_T98 x3 (wrap64 ((x3.length : Int) - 1))).f0) = (rd x7 x9) then (runs_of_uint64.l0 k (x3.set ((wrap64 ((x3.length : Int) - 1)) : Int).toNat (⟨(rd_T98 x3 (wrap64 ((x3.length : Int) - 1))).f0, wrap64 (((rd_T98 x3 (wrap64 ((x3.length : Int) - 1))).f1) + 1)⟩ : S98)) x7 x8 (wrap64 (x9 + 1))) else (if x3.length < 8796093022208 then (runs_of_uint64.l0 k (x3 ++ [(⟨rd x7 x9, 1⟩ : S98)]) x7 x8 (wrap64 (x9 + 1))) else (none))) else (none)) else (none)) else (if x3.length < 8796093022208 then (runs_of_uint64.l0 k (x3 ++ [(⟨rd x7 x9, 1⟩ : S98)]) x7 x8 (wrap64 (x9 + 1))) else (none))) else (none)) else (none)) else (some x3)
def runs_of_uint64.f (k : Nat) (l0 : List Int) : Option ((List (S98))) := runs_of_uint64.l0 k ([] : List (S98)) l0 (l0.length : Int) 0
theorem runs_of_uint64.mono_l : ∀ k, (∀ y0 y1 y2 y3, LeO (runs_of_uint64.l0 k y0 y1 y2 y3) (runs_of_uint64.l0 (k + 1) y0 y1 y2 y3))
  | 0 => fun _ _ _ _ r h => by simp [runs_of_uint64.l0] at h
  | k + 1 => by
    have ih0 := runs_of_uint64.mono_l k
    · intro y0 y1 y2 y3
      unfold runs_of_uint64.l0
      repeat' first
      | (with_reducible exact ih0 _ _ _ _)
      | (with_reducible exact LeO.refl _)
      | (with_reducible exact LeO.none _)
      | (with_reducible refine LeO.ite ?_ ?_)
      | (with_reducible refine LeO.bind ?_ (fun _ => ?_))
      | exact ih0 _ _ _ _
      | exact LeO.none _
      | refine LeO.ite ?_ ?_
      | refine LeO.bind ?_ (fun _ => ?_)
theorem runs_of_uint64.mono : ∀ a0 k, LeO (runs_of_uint64.f k a0) (runs_of_uint64.f (k + 1) a0) := by
  intro a0 k
  have ih0 := runs_of_uint64.mono_l k
  unfold runs_of_uint64.f
  repeat' first
      | (with_reducible exact ih0 _ _ _ _)
      | (with_reducible exact LeO.refl _)
      | (with_reducible exact LeO.none _)
      | (with_reducible refine LeO.ite ?_ ?_)
      | (with_reducible refine LeO.bind ?_ (fun _ => ?_))
      | exact ih0 _ _ _ _
      | exact LeO.none _
      | refine LeO.ite ?_ ?_
      | refine LeO.bind ?_ (fun _ => ?_)
set_option maxHeartbeats 8000000 in
set_option maxRecDepth 100000 in
theorem runs_of_uint64.calls (k : Nat) (A0 : Option Addr) (c0 : Nat) (l0 : List Int) (r : List (S98)) (w : World) (hr0 : Kd.C (Kd.int .u64) w A0 l0.length l0) (hc0 : l0.length ≤ c0) (h : runs_of_uint64.f k l0 = some r) :
    Calls Try.prog 89 #[.slice A0 l0.length c0] w fun e w' => ∃ v0_ : Value, e = .returned (v0_) ∧ Kd.R k98 98 w' w.heap.size (fun _ => True) v0_ r ∧ Below w.heap.size w w' := by
  have hu98 := Try.underlying98
  have HR0 := Aside0.mk hr0
  have HC0 := Aside0.mk hc0
  clear hr0 hc0
  have HB := Aside0.mk (Below.refl w.heap.size w)
  have H : (runs_of_uint64.l0 k ([] : List (S98)) l0 (l0.length : Int) 0) = some r := h
  clear h
  have H' := Aside0.mk H
  clear H
  go_enter Try.func89, Try.ntmps89
  go_wp2
  go_loopg [3, 9] k (fun kq v3 v9 w' => ∃ (x3_1 : List (S98)) (x9_1 : Int), v9 = .int .i64 x9_1 ∧ Aside0 (runs_of_uint64.l0 kq x3_1 l0 (l0.length : Int) x9_1 = some r) ∧ Aside0 (kq ≤ k) ∧ Aside0 (Kd.R k98 98 w' w.heap.size (fun _ => True) v3 x3_1) ∧ Aside0 (Below w.heap.size w w'))
  case atStart => exact ⟨(([] : List (S98))), (0), (by first | rfl | (simp; done) | (simp [*]; done)), H', ⟨Nat.le_refl _⟩, ⟨by first | exact Kd.R_nil _ _ _ _ _ | exact Kd.N_nil _ _ _ _ _ | exact Kd.V_nil _ _ _ _ _ | exact Kd.Q_nil _ _ _ _ _ | exact Kd.S_nil _ _ _ _ _⟩, ⟨by repeat (first | (with_reducible first | exact HB.out | apply below_alloc | apply pw_below_drewN | apply below_drew1) | exact HB.out)⟩⟩
  case round =>
    clear H'
    obtain ⟨x3_1, x9_1, rfl, HA, HK1, HO_3, HB⟩ := hrel
    cases gk with
    | zero => exact absurd HA.out (by simp [runs_of_uint64.l0])
    | succ k1 =>
      have H := HA.out
      clear HA
      simp only [runs_of_uint64.l0] at H
      by_cases c2 : x9_1 < (l0.length : Int)
      · rw [if_pos c2] at H
        have c2b0 : decide (x9_1 < (l0.length : Int)) = true := decide_eq_true c2
        clear c2
        by_cases c3 : 0 ≤ x9_1
        · rw [if_pos c3] at H
          have c3b0 : decide (0 ≤ x9_1) = true := decide_eq_true c3
          clear c3
          by_cases c4 : x9_1 < (l0.length : Int)
          · rw [if_pos c4] at H
            have c4b0 : decide (x9_1 < (l0.length : Int)) = true := decide_eq_true c4
            clear c4
            by_cases c5 : (wrap64 ((x3_1.length : Int) - 1)) ≥ 0
            · rw [if_pos c5] at H
              have c5b0 : decide (0 ≤ (wrap64 ((x3_1.length : Int) - 1))) = true := decide_eq_true c5
              clear c5
              obtain ⟨ji6, hji6⟩ : ∃ j_ : Int, (wrap64 ((x3_1.length : Int) - 1)) = j_ := ⟨_, rfl⟩
              replace H : (if 0 ≤ (ji6) then (if (ji6) < (x3_1.length : Int) then (if ((rd_T98 x3_1 (ji6)).f0) = (rd l0 x9_1) then (runs_of_uint64.l0 k1 (x3_1.set ((ji6) : Int).toNat (⟨(rd_T98 x3_1 (ji6)).f0, wrap64 (((rd_T98 x3_1 (ji6)).f1) + 1)⟩ : S98)) l0 (l0.length : Int) (wrap64 (x9_1 + 1))) else (if x3_1.length < 8796093022208 then (runs_of_uint64.l0 k1 (x3_1 ++ [(⟨rd l0 x9_1, 1⟩ : S98)]) l0 (l0.length : Int) (wrap64 (x9_1 + 1))) else (none))) else (none)) else (none)) = some r := by first | (rw [hji6] at H; exact H) | (simp only [hji6] at H ⊢; exact H)
              (try rw [hji6] at c5b0)
              have hji6w : (IntKind.i64.wrap ((x3_1.length : Int) - 1)) = ji6 := (i64_w _).trans hji6
              by_cases c7 : 0 ≤ (ji6)
              · rw [if_pos c7] at H
                have c7b0 : decide (0 ≤ (ji6)) = true := decide_eq_true c7
                clear c7
                by_cases c8 : (ji6) < (x3_1.length : Int)
                · rw [if_pos c8] at H
                  have c8b0 : decide ((ji6) < (x3_1.length : Int)) = true := decide_eq_true c8
                  clear c8
                  by_cases c9 : ((rd_T98 x3_1 (ji6)).f0) = (rd l0 x9_1)
                  · rw [if_pos c9] at H
                    have c9b0 : (((rd_T98 x3_1 (ji6)).f0) == (rd l0 x9_1)) = true := beq_iff_eq.mpr c9
                    have c9b1 : (((rd_T98 x3_1 (ji6)).f0) != (rd l0 x9_1)) = false := bne_eq_false_iff_eq.mpr c9
                    clear c9
                    obtain ⟨y286, hy286⟩ : ∃ y_ : List (S98), y_ = (x3_1.set ((ji6) : Int).toNat (⟨(rd_T98 x3_1 (ji6)).f0, wrap64 (((rd_T98 x3_1 (ji6)).f1) + 1)⟩ : S98)) := ⟨_, rfl⟩
                    replace H : (runs_of_uint64.l0 k1 y286 l0 (l0.length : Int) (wrap64 (x9_1 + 1))) = some r := by first | (rw [hy286]; with_reducible exact H) | (have H2_ := (Option.bind_some _ _).symm.trans H; rw [hy286]; with_reducible exact H2_) | (have H2_ := (Option.bind_some _ _).symm.trans H; with_reducible exact H2_) | with_reducible exact H | (rw [hy286]; exact H) | exact H
                    have Ny286 := Aside0.mk hy286
                    clear hy286
                    have H' := Aside0.mk H
                    clear H
                    have p283 : 0 ≤ (x9_1 : Int) := of_decide_eq_true (by first | (with_reducible assumption) | assumption)
                    have q283 : x9_1 < (l0.length : Int) := of_decide_eq_true (by first | (with_reducible assumption) | assumption)
                    obtain ⟨ad283, e283, hx283_0⟩ := Kd.at_int HR0.out x9_1 p283 q283
                    cases e283
                    replace hx283_0 := (HB.out.cell (World.block_lt_of_cell? w _ hx283_0)).trans hx283_0
                    replace p283 := eq_true p283
                    replace q283 := eq_true q283
                    obtain ⟨Ao11, co11, eo11⟩ := Kd.R_slice HO_3.out
                    subst eo11
                    have p284 : 0 ≤ ((ji6) : Int) := of_decide_eq_true (by first | (with_reducible assumption) | assumption)
                    have q284 : (ji6) < (x3_1.length : Int) := of_decide_eq_true (by first | (with_reducible assumption) | assumption)
                    obtain ⟨ad284, e284, hx284_0, hx284_1⟩ := at_T98 (Kd.R_reads' HO_3.out).2.2 (ji6) p284 q284
                    cases e284
                    replace p284 := eq_true p284
                    replace q284 := eq_true q284
                    have p285 : 0 ≤ ((ji6) : Int) := of_decide_eq_true (by first | (with_reducible assumption) | assumption)
                    have q285 : (ji6) < (x3_1.length : Int) := of_decide_eq_true (by first | (with_reducible assumption) | assumption)
                    obtain ⟨ad285, e285, hx285_0, hx285_1⟩ := at_T98 (Kd.R_reads' HO_3.out).2.2 (ji6) p285 q285
                    obtain rfl : ad284 = ad285 := (by injection e285)
                    replace p285 := eq_true p285
                    replace q285 := eq_true q285
                    have p10 : 0 ≤ ((ji6) : Int) := of_decide_eq_true (by first | (with_reducible assumption) | assumption)
                    have q10 : ((ji6) : Int) < ((x3_1.length : Int) : Int) := of_decide_eq_true (by first | (with_reducible assumption) | assumption)
                    obtain ⟨go10, co10, eo10, gb10, gl10, cl10, HG10⟩ := Kd.R_form HO_3.out (by omega)
                    (first | cases eo10 | (injection eo10 with ea_ en_ ec_; (first | subst ea_ | (injection ea_ with ea_; subst ea_)); subst ec_; clear en_))
                    have GB10 := Aside0.mk gb10
                    have GG10 := Aside0.mk HG10
                    clear gb10 gl10 HG10
                    (first | simp only [add_plain] at hx284_0 | skip)
                    (first | simp only [add_plain] at hx284_1 | skip)
                    (first | simp only [add_plain] at hx285_0 | skip)
                    (first | simp only [add_plain] at hx285_1 | skip)
                    obtain ⟨ce10, hcl10, hM10, hcc10, hfr10⟩ := Kd.R_elem HO_3.out z98 ((ji6) : Int) p10 q10
                    obtain rfl := k98_openM hM10
                    have hx10_0 : wr.cell? ⟨go10, ((ji6) : Int).toNat * 2, none⟩ = some (.int .u64 ((rd_T98 x3_1 (ji6)).f0)) := hcc10 0 _ rfl
                    have hx10_1 : wr.cell? ⟨go10, ((ji6) : Int).toNat * 2 + 1, none⟩ = some (.int .i64 ((rd_T98 x3_1 (ji6)).f1)) := hcc10 1 _ rfl
                    have hf10_0 : wr.frozen? ⟨go10, ((ji6) : Int).toNat * 2, none⟩ = false := hfr10 0
                    have hf10_1 : wr.frozen? ⟨go10, ((ji6) : Int).toNat * 2 + 1, none⟩ = false := hfr10 1
                    clear hcl10 hcc10 hfr10 hM10
                    replace p10 := eq_true p10
                    replace q10 := eq_true q10
                    have HX12 := Aside0.mk (show Kd.R k98 98 wr w.heap.size (fun _ => True) (.slice (some ⟨go10, 0, none⟩) x3_1.length co11) x3_1 from (by (with_reducible repeat (first | apply Kd.R_alloc | apply Kd.R_drewN | apply Kd.R_drew)); exact HO_3.out))
                    obtain ⟨ce12, hcl12, hM12, hcc12, hfr12⟩ := Kd.R_elem HX12.out z98 ((ji6) : Int) (of_decide_eq_true (by first | (with_reducible assumption) | assumption)) (by have h_ : ((ji6) : Int) < ((x3_1.length : Int) : Int) := of_decide_eq_true (by first | (with_reducible assumption) | assumption); first | exact h_ | (have e_ := (Kd.R_reads' HO_3.out).1; omega) | simpa using h_)
                    obtain rfl := k98_openM hM12
                    have HP12 := Kd.R_seg HX12.out ((ji6) : Int) (of_decide_eq_true (by first | (with_reducible assumption) | assumption)) (by have h_ : ((ji6) : Int) < ((x3_1.length : Int) : Int) := of_decide_eq_true (by first | (with_reducible assumption) | assumption); first | exact h_ | (have e_ := (Kd.R_reads' HO_3.out).1; omega) | simpa using h_) (seg := [.int .i64 (wrap64 (((rd_T98 x3_1 (ji6)).f1) + 1))]) (j := 1) hcl12 hcc12 (show 2 ≤ 2 from by decide) (x' := (⟨(rd_T98 x3_1 (ji6)).f0, wrap64 (((rd_T98 x3_1 (ji6)).f1) + 1)⟩ : S98)) (k98_mkM _ _ _ (⟨(rd_T98 x3_1 (ji6)).f0, wrap64 (((rd_T98 x3_1 (ji6)).f1) + 1)⟩ : S98) ) (fun _ hk => hk)
                    have hx12_1 := hcc12 1 _ rfl
                    (try simp only [show (k98).sz = 2 from rfl, Nat.mul_one, Nat.add_zero] at hx12_1)
                    have hf12_1 := hfr12 1
                    (try simp only [show (k98).sz = 2 from rfl, Nat.mul_one, Nat.add_zero] at hf12_1)
                    clear hcl12 hcc12 hfr12 hM12
                    go_wp2_with (first | ((with_reducible refine gate_store (t := 3) (p := 34) rfl ?_); refine store_event (t := 3) (p := 34) (v := ?vo_w13) (w1 := (wr.setCell ⟨go10, ((ji6) : Int).toNat * 2 + 1, none⟩ (.int .i64 (wrap64 (((rd_T98 x3_1 (ji6)).f1) + 1))))) ?hg ?ho ?hn ?hr ?_; (case ho => rfl); (case hg => rfl); (case hn => rfl); (case hr => first | (go_simp; done) | (go_simp; rfl)); intro w13 hw; have hg : wr.grownBy w13 (some go10) := (by rw [hw]; exact HP12.2); have hp_ : Kd.R k98 98 w13 w.heap.size (fun _ => True) (.slice (some ⟨go10, 0, none⟩) x3_1.length co11) y286 := (by rw [hw, Ny286.out]; exact HP12.1); clear HP12; have n0_ := Aside0.mk (hp_); have n1_ := Aside0.mk ((by rw [hw]; exact below_set (HB.out) GB10.out : Below w.heap.size w w13)); clear HO_3; clear HB; have HO_3 := n0_; have HB := n1_; clear n0_ n1_; clear hg hw hp_))
                    go_roundg k1
                    case measure => have := HK1.out; omega
                    case rel => exact ⟨(y286), (wrap64 (x9_1 + 1)), (by first | rfl | (simp; done) | (simp [*]; done)), H', ⟨by have := HK1.out; omega⟩, ⟨by (with_reducible repeat (first | apply Kd.R_alloc | apply Kd.R_drewN | apply Kd.R_drew)); exact HO_3.out⟩, ⟨by repeat (first | (with_reducible first | exact HB.out | apply below_alloc | apply pw_below_drewN | apply below_drew1) | exact HB.out)⟩⟩
                  · rw [if_neg c9] at H
                    have c9b0 : (((rd_T98 x3_1 (ji6)).f0) == (rd l0 x9_1)) = false := beq_eq_false_iff_ne.mpr c9
                    have c9b1 : (((rd_T98 x3_1 (ji6)).f0) != (rd l0 x9_1)) = true := bne_iff_ne.mpr c9
                    by_cases c14 : x3_1.length < 8796093022208
                    · rw [if_pos c14] at H
                      have LMc14 := Aside0.mk c14
                      clear c14
                      obtain ⟨y287, hy287⟩ : ∃ y_ : List (S98), y_ = (x3_1 ++ [(⟨rd l0 x9_1, 1⟩ : S98)]) := ⟨_, rfl⟩
                      replace H : (runs_of_uint64.l0 k1 y287 l0 (l0.length : Int) (wrap64 (x9_1 + 1))) = some r := by first | (rw [hy287]; with_reducible exact H) | (have H2_ := (Option.bind_some _ _).symm.trans H; rw [hy287]; with_reducible exact H2_) | (have H2_ := (Option.bind_some _ _).symm.trans H; with_reducible exact H2_) | with_reducible exact H | (rw [hy287]; exact H) | exact H
                      have Ny287 := Aside0.mk hy287
                      clear hy287
                      have H' := Aside0.mk H
                      clear H
                      have p283 : 0 ≤ (x9_1 : Int) := of_decide_eq_true (by first | (with_reducible assumption) | assumption)
                      have q283 : x9_1 < (l0.length : Int) := of_decide_eq_true (by first | (with_reducible assumption) | assumption)
                      obtain ⟨ad283, e283, hx283_0⟩ := Kd.at_int HR0.out x9_1 p283 q283
                      cases e283
                      replace hx283_0 := (HB.out.cell (World.block_lt_of_cell? w _ hx283_0)).trans hx283_0
                      replace p283 := eq_true p283
                      replace q283 := eq_true q283
                      obtain ⟨Ao15, co15, eo15⟩ := Kd.R_slice HO_3.out
                      subst eo15
                      have p284 : 0 ≤ ((ji6) : Int) := of_decide_eq_true (by first | (with_reducible assumption) | assumption)
                      have q284 : (ji6) < (x3_1.length : Int) := of_decide_eq_true (by first | (with_reducible assumption) | assumption)
                      obtain ⟨ad284, e284, hx284_0, hx284_1⟩ := at_T98 (Kd.R_reads' HO_3.out).2.2 (ji6) p284 q284
                      cases e284
                      replace p284 := eq_true p284
                      replace q284 := eq_true q284
                      go_wp2_with (first | ((with_reducible refine gate_builtin (b := .append) (xs := #[.tmp 35, .tmp 38]) rfl ?_); at_builtin; refine Kd.R_append k98 (w0 := w) w.heap.size rfl (.tmp 35) (.tmp 38) 95 98 (.agg #[(.int .u64 0), (.int .i64 0)]) 16 rfl Try.underlying95 info98 rfl (by decide) (by omega) (.slice (some ad284) x3_1.length co15) x3_1 (⟨rd l0 x9_1, 1⟩ : S98) [.int .u64 (rd l0 x9_1), .int .i64 1] (fun _ => True) (fun _ => False) rfl rfl ?aP (fun _ hk => hk.elim) ?aF ?aO ?aB ?aS ?aL ?_; (case aP => exact k98_mkM _ _ _ (⟨rd l0 x9_1, 1⟩ : S98)); (case aB => exact (by repeat (first | (with_reducible first | exact HB.out | apply below_alloc | apply pw_below_drewN | apply below_drew1) | exact HB.out))); (case aF => exact (fun _ _ => trivial)); (case aO => exact (by (with_reducible repeat (first | apply Kd.R_alloc | apply Kd.R_drewN | apply Kd.R_drew)); exact HO_3.out)); (case aS => exact (below_size (by repeat (first | (with_reducible first | exact HB.out | apply below_alloc | apply pw_below_drewN | apply below_drew1) | exact HB.out)))); (case aL => have := LMc14.out; omega); intro v288 w16 ho hb hg hat; rw [← Ny287.out] at ho; have n0_ := Aside0.mk (hb); have n1_ := Aside0.mk (ho); clear HB; clear HO_3; have HB := n0_; have HO289 := n1_; clear n0_ n1_; clear ho hb hg hat))
                      go_roundg k1
                      case measure => have := HK1.out; omega
                      case rel => exact ⟨(y287), (wrap64 (x9_1 + 1)), (by first | rfl | (simp; done) | (simp [*]; done)), H', ⟨by have := HK1.out; omega⟩, ⟨by (with_reducible repeat (first | apply Kd.R_alloc | apply Kd.R_drewN | apply Kd.R_drew)); exact HO289.out⟩, ⟨by repeat (first | (with_reducible first | exact HB.out | apply below_alloc | apply pw_below_drewN | apply below_drew1) | exact HB.out)⟩⟩
                    · rw [if_neg c14] at H
                      exact absurd H (by simp)
                · rw [if_neg c8] at H
                  exact absurd H (by simp)
              · rw [if_neg c7] at H
                exact absurd H (by simp)
            · rw [if_neg c5] at H
              have c5b0 : decide (0 ≤ (wrap64 ((x3_1.length : Int) - 1))) = false := decide_eq_false c5
              clear c5
              by_cases c17 : x3_1.length < 8796093022208
              · rw [if_pos c17] at H
                have LMc17 := Aside0.mk c17
                clear c17
                obtain ⟨y290, hy290⟩ : ∃ y_ : List (S98), y_ = (x3_1 ++ [(⟨rd l0 x9_1, 1⟩ : S98)]) := ⟨_, rfl⟩
                replace H : (runs_of_uint64.l0 k1 y290 l0 (l0.length : Int) (wrap64 (x9_1 + 1))) = some r := by first | (rw [hy290]; with_reducible exact H) | (have H2_ := (Option.bind_some _ _).symm.trans H; rw [hy290]; with_reducible exact H2_) | (have H2_ := (Option.bind_some _ _).symm.trans H; with_reducible exact H2_) | with_reducible exact H | (rw [hy290]; exact H) | exact H
                have Ny290 := Aside0.mk hy290
                clear hy290
                have H' := Aside0.mk H
                clear H
                have p283 : 0 ≤ (x9_1 : Int) := of_decide_eq_true (by first | (with_reducible assumption) | assumption)
                have q283 : x9_1 < (l0.length : Int) := of_decide_eq_true (by first | (with_reducible assumption) | assumption)
                obtain ⟨ad283, e283, hx283_0⟩ := Kd.at_int HR0.out x9_1 p283 q283
                cases e283
                replace hx283_0 := (HB.out.cell (World.block_lt_of_cell? w _ hx283_0)).trans hx283_0
                replace p283 := eq_true p283
                replace q283 := eq_true q283
                obtain ⟨Ao18, co18, eo18⟩ := Kd.R_slice HO_3.out
                subst eo18
                go_wp2_with (first | ((with_reducible refine gate_builtin (b := .append) (xs := #[.tmp 35, .tmp 38]) rfl ?_); at_builtin; refine Kd.R_append k98 (w0 := w) w.heap.size rfl (.tmp 35) (.tmp 38) 95 98 (.agg #[(.int .u64 0), (.int .i64 0)]) 16 rfl Try.underlying95 info98 rfl (by decide) (by omega) (.slice Ao18 x3_1.length co18) x3_1 (⟨rd l0 x9_1, 1⟩ : S98) [.int .u64 (rd l0 x9_1), .int .i64 1] (fun _ => True) (fun _ => False) rfl rfl ?aP (fun _ hk => hk.elim) ?aF ?aO ?aB ?aS ?aL ?_; (case aP => exact k98_mkM _ _ _ (⟨rd l0 x9_1, 1⟩ : S98)); (case aB => exact (by repeat (first | (with_reducible first | exact HB.out | apply below_alloc | apply pw_below_drewN | apply below_drew1) | exact HB.out))); (case aF => exact (fun _ _ => trivial)); (case aO => exact (by (with_reducible repeat (first | apply Kd.R_alloc | apply Kd.R_drewN | apply Kd.R_drew)); exact HO_3.out)); (case aS => exact (below_size (by repeat (first | (with_reducible first | exact HB.out | apply below_alloc | apply pw_below_drewN | apply below_drew1) | exact HB.out)))); (case aL => have := LMc17.out; omega); intro v291 w19 ho hb hg hat; rw [← Ny290.out] at ho; have n0_ := Aside0.mk (hb); have n1_ := Aside0.mk (ho); clear HB; clear HO_3; have HB := n0_; have HO292 := n1_; clear n0_ n1_; clear ho hb hg hat))
                go_roundg k1
                case measure => have := HK1.out; omega
                case rel => exact ⟨(y290), (wrap64 (x9_1 + 1)), (by first | rfl | (simp; done) | (simp [*]; done)), H', ⟨by have := HK1.out; omega⟩, ⟨by (with_reducible repeat (first | apply Kd.R_alloc | apply Kd.R_drewN | apply Kd.R_drew)); exact HO292.out⟩, ⟨by repeat (first | (with_reducible first | exact HB.out | apply below_alloc | apply pw_below_drewN | apply below_drew1) | exact HB.out)⟩⟩
              · rw [if_neg c17] at H
                exact absurd H (by simp)
          · rw [if_neg c4] at H
            exact absurd H (by simp)
        · rw [if_neg c3] at H
          exact absurd H (by simp)
      · rw [if_neg c2] at H
        have c2b0 : decide (x9_1 < (l0.length : Int)) = false := decide_eq_false c2
        clear c2
        obtain rfl := Option.some.inj H
        go_wp2
        go_ret
        exact ⟨_, by first | rfl | (simp [errW_none, errW_some] <;> rfl) | (simp [*, errW_none, errW_some] <;> rfl), by (with_reducible repeat (first | apply Kd.R_alloc | apply Kd.R_drewN | apply Kd.R_drew)); exact HO_3.out, by repeat (first | (with_reducible first | exact HB.out | apply below_alloc | apply pw_below_drewN | apply below_drew1) | exact HB.out)⟩
def runs_Encode.g (k : Nat) : List S98 → ByteArray → Option ByteArray
  | [], acc => some acc
  | x :: xs, acc => (pack_Put.f k x.f0).bind fun a => (pack_Put.f k (IntKind.u64.wrap x.f1)).bind fun b => if acc.size + a.size + b.size ≤ 140737488355328 then runs_Encode.g k xs ((acc ++ a) ++ b) else none
def runs_Encode.f (k : Nat) (l0 : List Int) : Option ByteArray := (runs_of_uint64.f k l0).bind fun t => if t.length < 4611686018427387904 then runs_Encode.g k t ByteArray.empty else none
theorem runs_Encode.mono : ∀ a0 k, LeO (runs_Encode.f k a0) (runs_Encode.f (k + 1) a0) := by
  have hg : ∀ (k : Nat) (l : List S98) (acc : ByteArray), LeO (runs_Encode.g k l acc) (runs_Encode.g (k + 1) l acc) := by
    intro k l
    induction l with
    | nil => intro acc; exact LeO.refl _
    | cons x xs ih =>
      intro acc
      unfold runs_Encode.g
      refine LeO.bind (pack_Put.mono _ _) fun a => LeO.bind (pack_Put.mono _ _) fun b => LeO.ite (ih _) (LeO.refl _)
  intro a0 k
  exact LeO.bind (runs_of_uint64.mono _ _) fun t => LeO.ite (hg k t _) (LeO.refl _)
set_option maxHeartbeats 8000000 in
set_option maxRecDepth 100000 in
theorem runs_Encode.calls (k : Nat) (A0 : Option Addr) (c0 : Nat) (l0 : List Int) (r : ByteArray) (w : World) (hr0 : Kd.C (Kd.int .u64) w A0 l0.length l0) (hc0 : l0.length ≤ c0) (h : runs_Encode.f k l0 = some r) :
    Calls Try.prog 44 #[.slice A0 l0.length c0] w fun e w' => e = .returned (.string r) ∧ Below w.heap.size w w' := by
  have hu98 := Try.underlying98
  have H := h
  clear h
  unfold runs_Encode.f at H
  obtain ⟨t, A20, H⟩ := Option.bind_eq_some_iff.mp H
  have A2 := Aside0.mk A20
  by_cases hlen : t.length < 4611686018427387904
  case neg => rw [if_neg hlen] at H; exact absurd H (by simp)
  rw [if_pos hlen] at H
  have LM := Aside0.mk hlen
  clear hlen
  have H' := Aside0.mk H
  have HR0 := Aside0.mk hr0
  have HC0 := Aside0.mk hc0
  clear A20 H hr0 hc0
  have HB := Aside0.mk (Below.refl w.heap.size w)
  go_enter Try.func44, Try.ntmps44
  go_wp2_with (go_at_call 89; (with_reducible refine (runs_of_uint64.calls k _ _ l0 t _ ?side1 ?side2 A2.out).mono ?_); (case side1 => (with_reducible refine Kd.C_alloc ?_ _); exact HR0.out); (case side2 => exact HC0.out); rintro e w3 ⟨v0, rfl, ho0, hb⟩; obtain ⟨Ao4, co4, eo4⟩ := Kd.R_slice ho0; subst eo4)
  have hbb : w3.heap[w.heap.size]? = some (.cells #[.pointer none, .slice none 0 0] 102 (0, 0)) := by rw [hb.block _ (by show _ < (w.heap.push _).size; simp)]; show (w.heap.push _)[w.heap.size]? = _; simp
  have hBld : Build.Bld w.heap.size w.heap.size ByteArray.empty w3 := (Build.Bld.fresh w).below hb
  have HO := Aside0.mk (Kd.R_lower ho0 (show w.heap.size ≤ (w.alloc (.cells #[.pointer none, .slice none 0 0] 102)).heap.size from by show _ ≤ (w.heap.push _).size; simp))
  have HB3 := Aside0.mk (below_step (by repeat (first | (with_reducible first | exact HB.out | apply below_alloc | apply pw_below_drewN | apply below_drew1) | exact HB.out)) hb)
  have HBl := Aside0.mk hBld
  clear hb ho0 hBld hbb HB
  go_loopg [9] (t.length + 1) (fun kq v9 w' => ∃ (x9 : Int) (acc : ByteArray), v9 = .int .i64 x9 ∧ Aside0 (0 ≤ x9 ∧ x9 ≤ t.length ∧ (kq : Int) + x9 = t.length + 1) ∧ Aside0 (runs_Encode.g k (t.drop x9.toNat) acc = some r) ∧ Aside0 (Build.Bld w.heap.size w.heap.size acc w') ∧ Aside0 (Kd.R k98 98 w' w.heap.size (fun _ => True) (.slice Ao4 t.length co4) t) ∧ Aside0 (Below w.heap.size w w'))
  case atStart => exact ⟨0, ByteArray.empty, by simp, ⟨by omega⟩, H', HBl, HO, HB3⟩
  case round =>
    clear HO HB3 HBl H'
    obtain ⟨x9, acc, rfl, HK, HG, HBl, HO, HB⟩ := hrel
    cases gk with
    | zero => have := HK.out; exact absurd this (by omega)
    | succ k1 =>
      by_cases hi : x9 < (t.length : Int)
      · have c5b0 : decide (x9 < (t.length : Int)) = true := decide_eq_true (by omega)
        have hk9 := HK.out
        have hdrop : t.drop x9.toNat = rd_T98 t x9 :: t.drop (x9.toNat + 1) := by
          rw [List.drop_eq_getElem_cons (show x9.toNat < t.length by omega)]
          congr 1
          unfold rd_T98
          simp [List.getD_eq_getElem?_getD, show x9.toNat < t.length by omega]
        have hG := HG.out
        clear HG
        rw [hdrop] at hG
        unfold runs_Encode.g at hG
        obtain ⟨a, A30, hG⟩ := Option.bind_eq_some_iff.mp hG
        obtain ⟨b, A40, hG⟩ := Option.bind_eq_some_iff.mp hG
        by_cases hz : acc.size + a.size + b.size ≤ 140737488355328
        · rw [if_pos hz] at hG
          have H' := Aside0.mk hG
          have A3 := Aside0.mk A30
          have A4 := Aside0.mk A40
          clear hG A30 A40 hdrop
          have p290 : 0 ≤ x9 := by omega
          have q290 : x9 < (t.length : Int) := by omega
          obtain ⟨ad290, e290, hx290_0, hx290_1⟩ := at_T98 (Kd.R_reads' HO.out).2.2 x9 p290 q290
          cases e290
          have hi0 := Aside0.mk hi
          clear hi hk9
          replace p290 := eq_true p290
          replace q290 := eq_true q290
          go_wp2_with (go_at_call 78; (with_reducible refine (pack_Put.calls k _ a _ A3.out).mono ?_); rintro e w5 ⟨rfl, hb⟩; have n0_ := Aside0.mk ((HBl.out.alloc _).below hb); have n1_ := Aside0.mk (Kd.R_below (Kd.R_alloc HO.out _) hb); have n2_ := Aside0.mk (below_step (by repeat (first | (with_reducible first | exact HB.out | apply below_alloc | apply pw_below_drewN | apply below_drew1) | exact HB.out)) hb); have hk5 := (hb.block wr.heap.size (by show _ < (wr.heap.push _).size; simp)).trans (blk_new wr _); clear HBl HO HB hb hx290_0 hx290_1; have HBl := n0_; have HO := n1_; have HB := n2_; clear n0_ n1_ n2_)
          go_wp2_with (go_at_call 90; (with_reducible refine (Build.write w.heap.size w.heap.size acc a _ HBl.out (by omega) (below_size HB.out)).mono ?_); rintro e w6 ⟨rfl, hbl, hb, hk⟩; obtain ⟨bs, hbs⟩ := HBl.out.block; have n0_ := Aside0.mk (Build.R_kept HO.out hk ⟨bs, hbs⟩ (by decide)); have n2_ := Aside0.mk (HB.out.trans hb); have hk6 := Build.block_kept hk hbs hk5 (by decide); have hc1 : w6.cell? ⟨wr.heap.size, 1, none⟩ = some (.int .i64 (rd_T98 t x9).f1) := (blk_cell hk6 1).trans rfl; clear HBl HO HB hb hk hk5 hbs; have HBl := Aside0.mk hbl; have HO := n0_; have HB := n2_; clear n0_ n2_ hbl)
          go_wp2_with (go_at_call 78; (with_reducible refine (pack_Put.calls k _ b _ A4.out).mono ?_); rintro e w7 ⟨rfl, hb⟩; have n0_ := Aside0.mk (HBl.out.below hb); have n1_ := Aside0.mk (Kd.R_below HO.out hb); have n2_ := Aside0.mk (below_step HB.out hb); clear HBl HO HB hb hc1; have HBl := n0_; have HO := n1_; have HB := n2_; clear n0_ n1_ n2_)
          go_wp2_with (go_at_call 90; (with_reducible refine (Build.write w.heap.size w.heap.size (acc ++ a) b _ HBl.out (by rw [ByteArray.size_append]; omega) (below_size HB.out)).mono ?_); rintro e w8 ⟨rfl, hbl, hb, hk⟩; have n0_ := Aside0.mk (Build.R_kept HO.out hk HBl.out.block (by decide)); have n2_ := Aside0.mk (HB.out.trans hb); clear HBl HO HB hb hk; have HBl := Aside0.mk hbl; have HO := n0_; have HB := n2_; clear n0_ n2_ hbl)
          go_roundg k1
          case measure => have := HK.out; omega
          case rel => exact ⟨wrap64 (x9 + 1), (acc ++ a) ++ b, (by first | rfl | (simp; done) | (simp [*]; done)), ⟨by have := HK.out; have := hi0.out; have := LM.out; unfold wrap64; omega⟩, ⟨by rw [show (wrap64 (x9 + 1)).toNat = x9.toNat + 1 by have := HK.out; have := LM.out; unfold wrap64; omega]; exact H'.out⟩, HBl, HO, HB⟩
        · rw [if_neg hz] at hG
          exact absurd hG (by simp)
      · have c5b0 : decide (x9 < (t.length : Int)) = false := decide_eq_false hi
        have hk9 := HK.out
        have hG := HG.out
        rw [List.drop_eq_nil_of_le (by omega)] at hG
        unfold runs_Encode.g at hG
        obtain rfl := Option.some.inj hG
        clear hG HG hi hk9
        go_wp2_with (go_at_call 91; (with_reducible refine (Build.string w.heap.size w.heap.size acc _ HBl.out (below_size HB.out)).mono ?_); rintro e w9 ⟨rfl, hb, hk⟩; have n2_ := Aside0.mk (HB.out.trans hb); clear HB; have HB := n2_; clear n2_)
        go_ret
        exact ⟨rfl, HB.out⟩
end Go.Proofs.Ytbgjoiccehiglaa.Print
end
