/- Part 4 of what RowsReads stands on: merged by a program of this session out of its texts. -/
import Derived.Test.YtfgnjndfnijjoaaCRowsReads3
section
namespace Go.Proofs.Ytfgnjndfnijjoaa.Print
open Go.RowKit Go.Proofs.YtfgnjndfnijjoaaW.PrintWords Go.Proofs.YtfgnjndfnijjoaaW.PrintLast Go.Proofs.YtfgnjndfnijjoaaW.PrintMore
attribute [local go_sem] max2_int min2_int max_two min_two max_three min_three max_four min_four
attribute [local go_sem] run_store_float
set_option linter.unusedVariables false
set_option linter.unusedSimpArgs false
theorem in_val (s : ByteArray) (i lo hi : Int) (h : 0 ≤ i) : bonsairef04_in.f s i lo hi = some (decide (i < s.size ∧ lo ≤ bt s i ∧ bt s i ≤ hi)) := by
  have hr := bt_range s i
  have hw : wrap64 (bt s i) = bt s i := by unfold wrap64; omega
  unfold bonsairef04_in.f
  rw [hw]
  by_cases h1 : i < (s.size : Int)
  · rw [if_pos h1, if_pos h]
    by_cases h2 : bt s i ≥ lo
    · rw [if_pos h2]; congr 1; simp only [decide_eq_decide]; omega
    · rw [if_neg h2]; congr 1; symm; simp only [decide_eq_false_iff_not]; omega
  · rw [if_neg h1]; congr 1; symm; simp only [decide_eq_false_iff_not]; omega
theorem in_yes (s : ByteArray) (i lo hi : Int) (w : World) (h : 0 ≤ i ∧ i < s.size ∧ lo ≤ bt s i ∧ bt s i ≤ hi) :
    Calls Try.prog 95 #[.string s, .int .i64 i, .int .i64 lo, .int .i64 hi] w fun e w' => e = .returned (.bool true) ∧ ∃ n, w' = w.drewN n :=
  (bonsairef04_in.calls s i lo hi true w (by rw [in_val s i lo hi h.1]; simp; omega)).mono fun _ _ h => ⟨h.1, h.2.out⟩
theorem in_no (s : ByteArray) (i lo hi : Int) (w : World) (h : 0 ≤ i ∧ (s.size ≤ i ∨ bt s i < lo ∨ hi < bt s i)) :
    Calls Try.prog 95 #[.string s, .int .i64 i, .int .i64 lo, .int .i64 hi] w fun e w' => e = .returned (.bool false) ∧ ∃ n, w' = w.drewN n :=
  (bonsairef04_in.calls s i lo hi false w (by rw [in_val s i lo hi h.1]; simp; omega)).mono fun _ _ h => ⟨h.1, h.2.out⟩
theorem sgStep_getD (s : ByteArray) (i : Int) : (sgStep s i).getD 0 =
    if (sgH (bt s i)).2.2.2 = false then 0 else if (s.size : Int) - i ≤ (sgH (bt s i)).1 then 0
    else if sgR s (sgH (bt s i)).1.toNat (i + 1) (sgH (bt s i)).2.1 (sgH (bt s i)).2.2.1 = true then 1 + (sgH (bt s i)).1 else 0 := by
  unfold sgStep
  repeat' split
  all_goals rfl
theorem sgH_is (b : Int) : sgH b = if b < 128 then (0, 128, 191, true) else (if b < 194 then (0, 128, 191, false) else (if b < 224 then (1, 128, 191, true) else (if b < 240 then (if b = 224 then (2, 160, 191, true) else (if b = 237 then (2, 128, 159, true) else (2, 128, 191, true))) else (if b < 245 then (if b = 240 then (3, 144, 191, true) else (if b = 244 then (3, 128, 143, true) else (3, 128, 191, true))) else (0, 128, 191, false))))) := rfl
theorem sgR_0 (s : ByteArray) (i lo hi : Int) : (sgR s (0 : Int).toNat i lo hi = true) = True := by simp [sgR]
theorem sgR_1 (s : ByteArray) (i lo hi : Int) : (sgR s (1 : Int).toNat i lo hi = true) = (lo ≤ bt s i ∧ bt s i ≤ hi) := by
  show (sgR s 1 i lo hi = true) = _
  simp only [sgR, eq_iff_iff]
  (repeat' split) <;> simp <;> omega
theorem sgR_2 (s : ByteArray) (i lo hi : Int) : (sgR s (2 : Int).toNat i lo hi = true) = (lo ≤ bt s i ∧ bt s i ≤ hi ∧ 128 ≤ bt s (i + 1) ∧ bt s (i + 1) ≤ 191) := by
  show (sgR s 2 i lo hi = true) = _
  simp only [sgR, eq_iff_iff]
  (repeat' split) <;> simp <;> omega
theorem sgR_3 (s : ByteArray) (i lo hi : Int) : (sgR s (3 : Int).toNat i lo hi = true) = (lo ≤ bt s i ∧ bt s i ≤ hi ∧ 128 ≤ bt s (i + 1) ∧ bt s (i + 1) ≤ 191 ∧ 128 ≤ bt s (i + 1 + 1) ∧ bt s (i + 1 + 1) ≤ 191) := by
  show (sgR s 3 i lo hi = true) = _
  simp only [sgR, eq_iff_iff]
  (repeat' split) <;> simp <;> omega
def bonsairef04_sign.f (s : ByteArray) (i : Int) : Option Int := if 0 ≤ i ∧ i < s.size ∧ s.size ≤ 9223372036854775000 then some ((sgStep s i).getD 0) else none
def SignSaid (s : ByteArray) (i : Int) (w : World) : Prop := Calls Try.prog 93 #[.string s, .int .i64 i] w fun e w' => e = .returned (.int .i64 ((sgStep s i).getD 0)) ∧ Drawn0 w w'
set_option maxHeartbeats 8000000 in
set_option maxRecDepth 100000 in
theorem sign_asc0 (s : ByteArray) (i : Int) (w : World) (h0 : 0 ≤ i) (hi : i < s.size) (hs : s.size ≤ 9223372036854775000) (hr : 0 ≤ bt s i) (cb : bt s i < 128)  : SignSaid s i w := by
  have hv : (sgStep s i).getD 0 = 1 := by
    have hH := sgH_is (bt s i)
    repeat (first | rw [if_pos (by omega)] at hH | rw [if_neg (by omega)] at hH)
    rw [sgStep_getD, hH]
    try simp only [sgR_0, sgR_1, sgR_2, sgR_3, reduceCtorEq, if_false, if_true, show i + 1 + 1 = i + 2 by omega, show i + 2 + 1 = i + 3 by omega]
    (try repeat (first | rw [if_pos (by omega)] | rw [if_neg (by omega)]))
    all_goals first | rfl | ((repeat' split) <;> first | rfl | omega)
  unfold SignSaid
  rw [hv]
  clear hv
  go_enter Try.func93, Try.ntmps93
  go_wp2_with (first | (go_at_call 95; (with_reducible refine (in_yes _ _ _ _ _ (by omega)).mono ?_); rintro e w' ⟨rfl, ⟨nd, rfl⟩⟩) | (go_at_call 95; (with_reducible refine (in_no _ _ _ _ _ (by omega)).mono ?_); rintro e w' ⟨rfl, ⟨nd, rfl⟩⟩))
  go_ret
  exact ⟨rfl, by repeat (first | exact Drawn0.refl _ | apply Drawn0.step)⟩
set_option maxHeartbeats 8000000 in
set_option maxRecDepth 100000 in
theorem sign_bad0 (s : ByteArray) (i : Int) (w : World) (h0 : 0 ≤ i) (hi : i < s.size) (hs : s.size ≤ 9223372036854775000) (hr : 0 ≤ bt s i) (cb : (128 ≤ bt s i ∧ bt s i < 194 ∨ 245 ≤ bt s i)) (c1 : (s.size ≤ i + 2 ∨ bt s (i + 2) < 128 ∨ 191 < bt s (i + 2))) : SignSaid s i w := by
  have hv : (sgStep s i).getD 0 = 0 := by
    rcases cb with cb | cb
    all_goals
      have hH := sgH_is (bt s i)
      repeat (first | rw [if_pos (by omega)] at hH | rw [if_neg (by omega)] at hH)
      rw [sgStep_getD, hH]
      try simp only [sgR_0, sgR_1, sgR_2, sgR_3, reduceCtorEq, if_false, if_true, show i + 1 + 1 = i + 2 by omega, show i + 2 + 1 = i + 3 by omega]
      (try repeat (first | rw [if_pos (by omega)] | rw [if_neg (by omega)]))
      all_goals first | rfl | ((repeat' split) <;> first | rfl | omega)
  unfold SignSaid
  rw [hv]
  clear hv
  go_enter Try.func93, Try.ntmps93
  go_wp2_with (first | (go_at_call 95; (with_reducible refine (in_yes _ _ _ _ _ (by omega)).mono ?_); rintro e w' ⟨rfl, ⟨nd, rfl⟩⟩) | (go_at_call 95; (with_reducible refine (in_no _ _ _ _ _ (by omega)).mono ?_); rintro e w' ⟨rfl, ⟨nd, rfl⟩⟩))
  go_ret
  exact ⟨rfl, by repeat (first | exact Drawn0.refl _ | apply Drawn0.step)⟩
set_option maxHeartbeats 8000000 in
set_option maxRecDepth 100000 in
theorem sign_bad1 (s : ByteArray) (i : Int) (w : World) (h0 : 0 ≤ i) (hi : i < s.size) (hs : s.size ≤ 9223372036854775000) (hr : 0 ≤ bt s i) (cb : (128 ≤ bt s i ∧ bt s i < 194 ∨ 245 ≤ bt s i)) (c1 : (i + 2 < s.size ∧ 128 ≤ bt s (i + 2) ∧ bt s (i + 2) ≤ 191)) (c2 : (s.size ≤ i + 3 ∨ bt s (i + 3) < 128 ∨ 191 < bt s (i + 3))) : SignSaid s i w := by
  have hv : (sgStep s i).getD 0 = 0 := by
    rcases cb with cb | cb
    all_goals
      have hH := sgH_is (bt s i)
      repeat (first | rw [if_pos (by omega)] at hH | rw [if_neg (by omega)] at hH)
      rw [sgStep_getD, hH]
      try simp only [sgR_0, sgR_1, sgR_2, sgR_3, reduceCtorEq, if_false, if_true, show i + 1 + 1 = i + 2 by omega, show i + 2 + 1 = i + 3 by omega]
      (try repeat (first | rw [if_pos (by omega)] | rw [if_neg (by omega)]))
      all_goals first | rfl | ((repeat' split) <;> first | rfl | omega)
  unfold SignSaid
  rw [hv]
  clear hv
  go_enter Try.func93, Try.ntmps93
  go_wp2_with (first | (go_at_call 95; (with_reducible refine (in_yes _ _ _ _ _ (by omega)).mono ?_); rintro e w' ⟨rfl, ⟨nd, rfl⟩⟩) | (go_at_call 95; (with_reducible refine (in_no _ _ _ _ _ (by omega)).mono ?_); rintro e w' ⟨rfl, ⟨nd, rfl⟩⟩))
  go_ret
  exact ⟨rfl, by repeat (first | exact Drawn0.refl _ | apply Drawn0.step)⟩
set_option maxHeartbeats 8000000 in
set_option maxRecDepth 100000 in
theorem sign_bad2 (s : ByteArray) (i : Int) (w : World) (h0 : 0 ≤ i) (hi : i < s.size) (hs : s.size ≤ 9223372036854775000) (hr : 0 ≤ bt s i) (cb : (128 ≤ bt s i ∧ bt s i < 194 ∨ 245 ≤ bt s i)) (c1 : (i + 2 < s.size ∧ 128 ≤ bt s (i + 2) ∧ bt s (i + 2) ≤ 191)) (c2 : (i + 3 < s.size ∧ 128 ≤ bt s (i + 3) ∧ bt s (i + 3) ≤ 191)) : SignSaid s i w := by
  have hv : (sgStep s i).getD 0 = 0 := by
    rcases cb with cb | cb
    all_goals
      have hH := sgH_is (bt s i)
      repeat (first | rw [if_pos (by omega)] at hH | rw [if_neg (by omega)] at hH)
      rw [sgStep_getD, hH]
      try simp only [sgR_0, sgR_1, sgR_2, sgR_3, reduceCtorEq, if_false, if_true, show i + 1 + 1 = i + 2 by omega, show i + 2 + 1 = i + 3 by omega]
      (try repeat (first | rw [if_pos (by omega)] | rw [if_neg (by omega)]))
      all_goals first | rfl | ((repeat' split) <;> first | rfl | omega)
  unfold SignSaid
  rw [hv]
  clear hv
  go_enter Try.func93, Try.ntmps93
  go_wp2_with (first | (go_at_call 95; (with_reducible refine (in_yes _ _ _ _ _ (by omega)).mono ?_); rintro e w' ⟨rfl, ⟨nd, rfl⟩⟩) | (go_at_call 95; (with_reducible refine (in_no _ _ _ _ _ (by omega)).mono ?_); rintro e w' ⟨rfl, ⟨nd, rfl⟩⟩))
  go_ret
  exact ⟨rfl, by repeat (first | exact Drawn0.refl _ | apply Drawn0.step)⟩
set_option maxHeartbeats 8000000 in
set_option maxRecDepth 100000 in
theorem sign_two0 (s : ByteArray) (i : Int) (w : World) (h0 : 0 ≤ i) (hi : i < s.size) (hs : s.size ≤ 9223372036854775000) (hr : 0 ≤ bt s i) (cb : 194 ≤ bt s i ∧ bt s i < 224) (c1 : (i + 1 < s.size ∧ 128 ≤ bt s (i + 1) ∧ bt s (i + 1) ≤ 191)) : SignSaid s i w := by
  have hv : (sgStep s i).getD 0 = 2 := by
    have hH := sgH_is (bt s i)
    repeat (first | rw [if_pos (by omega)] at hH | rw [if_neg (by omega)] at hH)
    rw [sgStep_getD, hH]
    try simp only [sgR_0, sgR_1, sgR_2, sgR_3, reduceCtorEq, if_false, if_true, show i + 1 + 1 = i + 2 by omega, show i + 2 + 1 = i + 3 by omega]
    (try repeat (first | rw [if_pos (by omega)] | rw [if_neg (by omega)]))
    all_goals first | rfl | ((repeat' split) <;> first | rfl | omega)
  unfold SignSaid
  rw [hv]
  clear hv
  go_enter Try.func93, Try.ntmps93
  go_wp2_with (first | (go_at_call 95; (with_reducible refine (in_yes _ _ _ _ _ (by omega)).mono ?_); rintro e w' ⟨rfl, ⟨nd, rfl⟩⟩) | (go_at_call 95; (with_reducible refine (in_no _ _ _ _ _ (by omega)).mono ?_); rintro e w' ⟨rfl, ⟨nd, rfl⟩⟩))
  go_ret
  exact ⟨rfl, by repeat (first | exact Drawn0.refl _ | apply Drawn0.step)⟩
set_option maxHeartbeats 8000000 in
set_option maxRecDepth 100000 in
theorem sign_two1 (s : ByteArray) (i : Int) (w : World) (h0 : 0 ≤ i) (hi : i < s.size) (hs : s.size ≤ 9223372036854775000) (hr : 0 ≤ bt s i) (cb : 194 ≤ bt s i ∧ bt s i < 224) (c1 : (s.size ≤ i + 1 ∨ bt s (i + 1) < 128 ∨ 191 < bt s (i + 1))) (c2 : (s.size ≤ i + 2 ∨ bt s (i + 2) < 128 ∨ 191 < bt s (i + 2))) : SignSaid s i w := by
  have hv : (sgStep s i).getD 0 = 0 := by
    have hH := sgH_is (bt s i)
    repeat (first | rw [if_pos (by omega)] at hH | rw [if_neg (by omega)] at hH)
    rw [sgStep_getD, hH]
    try simp only [sgR_0, sgR_1, sgR_2, sgR_3, reduceCtorEq, if_false, if_true, show i + 1 + 1 = i + 2 by omega, show i + 2 + 1 = i + 3 by omega]
    (try repeat (first | rw [if_pos (by omega)] | rw [if_neg (by omega)]))
    all_goals first | rfl | ((repeat' split) <;> first | rfl | omega)
  unfold SignSaid
  rw [hv]
  clear hv
  go_enter Try.func93, Try.ntmps93
  go_wp2_with (first | (go_at_call 95; (with_reducible refine (in_yes _ _ _ _ _ (by omega)).mono ?_); rintro e w' ⟨rfl, ⟨nd, rfl⟩⟩) | (go_at_call 95; (with_reducible refine (in_no _ _ _ _ _ (by omega)).mono ?_); rintro e w' ⟨rfl, ⟨nd, rfl⟩⟩))
  go_ret
  exact ⟨rfl, by repeat (first | exact Drawn0.refl _ | apply Drawn0.step)⟩
set_option maxHeartbeats 8000000 in
set_option maxRecDepth 100000 in
theorem sign_two2 (s : ByteArray) (i : Int) (w : World) (h0 : 0 ≤ i) (hi : i < s.size) (hs : s.size ≤ 9223372036854775000) (hr : 0 ≤ bt s i) (cb : 194 ≤ bt s i ∧ bt s i < 224) (c1 : (s.size ≤ i + 1 ∨ bt s (i + 1) < 128 ∨ 191 < bt s (i + 1))) (c2 : (i + 2 < s.size ∧ 128 ≤ bt s (i + 2) ∧ bt s (i + 2) ≤ 191)) (c3 : (s.size ≤ i + 3 ∨ bt s (i + 3) < 128 ∨ 191 < bt s (i + 3))) : SignSaid s i w := by
  have hv : (sgStep s i).getD 0 = 0 := by
    have hH := sgH_is (bt s i)
    repeat (first | rw [if_pos (by omega)] at hH | rw [if_neg (by omega)] at hH)
    rw [sgStep_getD, hH]
    try simp only [sgR_0, sgR_1, sgR_2, sgR_3, reduceCtorEq, if_false, if_true, show i + 1 + 1 = i + 2 by omega, show i + 2 + 1 = i + 3 by omega]
    (try repeat (first | rw [if_pos (by omega)] | rw [if_neg (by omega)]))
    all_goals first | rfl | ((repeat' split) <;> first | rfl | omega)
  unfold SignSaid
  rw [hv]
  clear hv
  go_enter Try.func93, Try.ntmps93
  go_wp2_with (first | (go_at_call 95; (with_reducible refine (in_yes _ _ _ _ _ (by omega)).mono ?_); rintro e w' ⟨rfl, ⟨nd, rfl⟩⟩) | (go_at_call 95; (with_reducible refine (in_no _ _ _ _ _ (by omega)).mono ?_); rintro e w' ⟨rfl, ⟨nd, rfl⟩⟩))
  go_ret
  exact ⟨rfl, by repeat (first | exact Drawn0.refl _ | apply Drawn0.step)⟩
set_option maxHeartbeats 8000000 in
set_option maxRecDepth 100000 in
theorem sign_two3 (s : ByteArray) (i : Int) (w : World) (h0 : 0 ≤ i) (hi : i < s.size) (hs : s.size ≤ 9223372036854775000) (hr : 0 ≤ bt s i) (cb : 194 ≤ bt s i ∧ bt s i < 224) (c1 : (s.size ≤ i + 1 ∨ bt s (i + 1) < 128 ∨ 191 < bt s (i + 1))) (c2 : (i + 2 < s.size ∧ 128 ≤ bt s (i + 2) ∧ bt s (i + 2) ≤ 191)) (c3 : (i + 3 < s.size ∧ 128 ≤ bt s (i + 3) ∧ bt s (i + 3) ≤ 191)) : SignSaid s i w := by
  have hv : (sgStep s i).getD 0 = 0 := by
    have hH := sgH_is (bt s i)
    repeat (first | rw [if_pos (by omega)] at hH | rw [if_neg (by omega)] at hH)
    rw [sgStep_getD, hH]
    try simp only [sgR_0, sgR_1, sgR_2, sgR_3, reduceCtorEq, if_false, if_true, show i + 1 + 1 = i + 2 by omega, show i + 2 + 1 = i + 3 by omega]
    (try repeat (first | rw [if_pos (by omega)] | rw [if_neg (by omega)]))
    all_goals first | rfl | ((repeat' split) <;> first | rfl | omega)
  unfold SignSaid
  rw [hv]
  clear hv
  go_enter Try.func93, Try.ntmps93
  go_wp2_with (first | (go_at_call 95; (with_reducible refine (in_yes _ _ _ _ _ (by omega)).mono ?_); rintro e w' ⟨rfl, ⟨nd, rfl⟩⟩) | (go_at_call 95; (with_reducible refine (in_no _ _ _ _ _ (by omega)).mono ?_); rintro e w' ⟨rfl, ⟨nd, rfl⟩⟩))
  go_ret
  exact ⟨rfl, by repeat (first | exact Drawn0.refl _ | apply Drawn0.step)⟩
set_option maxHeartbeats 8000000 in
set_option maxRecDepth 100000 in
theorem sign_e00 (s : ByteArray) (i : Int) (w : World) (h0 : 0 ≤ i) (hi : i < s.size) (hs : s.size ≤ 9223372036854775000) (hr : 0 ≤ bt s i) (cb : bt s i = 224) (c1 : (s.size ≤ i + 2 ∨ bt s (i + 2) < 128 ∨ 191 < bt s (i + 2))) : SignSaid s i w := by
  have hv : (sgStep s i).getD 0 = 0 := by
    have hH := sgH_is (bt s i)
    repeat (first | rw [if_pos (by omega)] at hH | rw [if_neg (by omega)] at hH)
    rw [sgStep_getD, hH]
    try simp only [sgR_0, sgR_1, sgR_2, sgR_3, reduceCtorEq, if_false, if_true, show i + 1 + 1 = i + 2 by omega, show i + 2 + 1 = i + 3 by omega]
    (try repeat (first | rw [if_pos (by omega)] | rw [if_neg (by omega)]))
    all_goals first | rfl | ((repeat' split) <;> first | rfl | omega)
  unfold SignSaid
  rw [hv]
  clear hv
  go_enter Try.func93, Try.ntmps93
  go_wp2_with (first | (go_at_call 95; (with_reducible refine (in_yes _ _ _ _ _ (by omega)).mono ?_); rintro e w' ⟨rfl, ⟨nd, rfl⟩⟩) | (go_at_call 95; (with_reducible refine (in_no _ _ _ _ _ (by omega)).mono ?_); rintro e w' ⟨rfl, ⟨nd, rfl⟩⟩))
  go_ret
  exact ⟨rfl, by repeat (first | exact Drawn0.refl _ | apply Drawn0.step)⟩
set_option maxHeartbeats 8000000 in
set_option maxRecDepth 100000 in
theorem sign_e01 (s : ByteArray) (i : Int) (w : World) (h0 : 0 ≤ i) (hi : i < s.size) (hs : s.size ≤ 9223372036854775000) (hr : 0 ≤ bt s i) (cb : bt s i = 224) (c1 : (i + 2 < s.size ∧ 128 ≤ bt s (i + 2) ∧ bt s (i + 2) ≤ 191)) (c2 : (i + 1 < s.size ∧ 160 ≤ bt s (i + 1) ∧ bt s (i + 1) ≤ 191)) : SignSaid s i w := by
  have hv : (sgStep s i).getD 0 = 3 := by
    have hH := sgH_is (bt s i)
    repeat (first | rw [if_pos (by omega)] at hH | rw [if_neg (by omega)] at hH)
    rw [sgStep_getD, hH]
    try simp only [sgR_0, sgR_1, sgR_2, sgR_3, reduceCtorEq, if_false, if_true, show i + 1 + 1 = i + 2 by omega, show i + 2 + 1 = i + 3 by omega]
    (try repeat (first | rw [if_pos (by omega)] | rw [if_neg (by omega)]))
    all_goals first | rfl | ((repeat' split) <;> first | rfl | omega)
  unfold SignSaid
  rw [hv]
  clear hv
  go_enter Try.func93, Try.ntmps93
  go_wp2_with (first | (go_at_call 95; (with_reducible refine (in_yes _ _ _ _ _ (by omega)).mono ?_); rintro e w' ⟨rfl, ⟨nd, rfl⟩⟩) | (go_at_call 95; (with_reducible refine (in_no _ _ _ _ _ (by omega)).mono ?_); rintro e w' ⟨rfl, ⟨nd, rfl⟩⟩))
  go_ret
  exact ⟨rfl, by repeat (first | exact Drawn0.refl _ | apply Drawn0.step)⟩
set_option maxHeartbeats 8000000 in
set_option maxRecDepth 100000 in
theorem sign_e02 (s : ByteArray) (i : Int) (w : World) (h0 : 0 ≤ i) (hi : i < s.size) (hs : s.size ≤ 9223372036854775000) (hr : 0 ≤ bt s i) (cb : bt s i = 224) (c1 : (i + 2 < s.size ∧ 128 ≤ bt s (i + 2) ∧ bt s (i + 2) ≤ 191)) (c2 : (s.size ≤ i + 1 ∨ bt s (i + 1) < 160 ∨ 191 < bt s (i + 1))) (c3 : (s.size ≤ i + 3 ∨ bt s (i + 3) < 128 ∨ 191 < bt s (i + 3))) : SignSaid s i w := by
  have hv : (sgStep s i).getD 0 = 0 := by
    have hH := sgH_is (bt s i)
    repeat (first | rw [if_pos (by omega)] at hH | rw [if_neg (by omega)] at hH)
    rw [sgStep_getD, hH]
    try simp only [sgR_0, sgR_1, sgR_2, sgR_3, reduceCtorEq, if_false, if_true, show i + 1 + 1 = i + 2 by omega, show i + 2 + 1 = i + 3 by omega]
    (try repeat (first | rw [if_pos (by omega)] | rw [if_neg (by omega)]))
    all_goals first | rfl | ((repeat' split) <;> first | rfl | omega)
  unfold SignSaid
  rw [hv]
  clear hv
  go_enter Try.func93, Try.ntmps93
  go_wp2_with (first | (go_at_call 95; (with_reducible refine (in_yes _ _ _ _ _ (by omega)).mono ?_); rintro e w' ⟨rfl, ⟨nd, rfl⟩⟩) | (go_at_call 95; (with_reducible refine (in_no _ _ _ _ _ (by omega)).mono ?_); rintro e w' ⟨rfl, ⟨nd, rfl⟩⟩))
  go_ret
  exact ⟨rfl, by repeat (first | exact Drawn0.refl _ | apply Drawn0.step)⟩
set_option maxHeartbeats 8000000 in
set_option maxRecDepth 100000 in
theorem sign_e03 (s : ByteArray) (i : Int) (w : World) (h0 : 0 ≤ i) (hi : i < s.size) (hs : s.size ≤ 9223372036854775000) (hr : 0 ≤ bt s i) (cb : bt s i = 224) (c1 : (i + 2 < s.size ∧ 128 ≤ bt s (i + 2) ∧ bt s (i + 2) ≤ 191)) (c2 : (s.size ≤ i + 1 ∨ bt s (i + 1) < 160 ∨ 191 < bt s (i + 1))) (c3 : (i + 3 < s.size ∧ 128 ≤ bt s (i + 3) ∧ bt s (i + 3) ≤ 191)) : SignSaid s i w := by
  have hv : (sgStep s i).getD 0 = 0 := by
    have hH := sgH_is (bt s i)
    repeat (first | rw [if_pos (by omega)] at hH | rw [if_neg (by omega)] at hH)
    rw [sgStep_getD, hH]
    try simp only [sgR_0, sgR_1, sgR_2, sgR_3, reduceCtorEq, if_false, if_true, show i + 1 + 1 = i + 2 by omega, show i + 2 + 1 = i + 3 by omega]
    (try repeat (first | rw [if_pos (by omega)] | rw [if_neg (by omega)]))
    all_goals first | rfl | ((repeat' split) <;> first | rfl | omega)
  unfold SignSaid
  rw [hv]
  clear hv
  go_enter Try.func93, Try.ntmps93
  go_wp2_with (first | (go_at_call 95; (with_reducible refine (in_yes _ _ _ _ _ (by omega)).mono ?_); rintro e w' ⟨rfl, ⟨nd, rfl⟩⟩) | (go_at_call 95; (with_reducible refine (in_no _ _ _ _ _ (by omega)).mono ?_); rintro e w' ⟨rfl, ⟨nd, rfl⟩⟩))
  go_ret
  exact ⟨rfl, by repeat (first | exact Drawn0.refl _ | apply Drawn0.step)⟩
set_option maxHeartbeats 8000000 in
set_option maxRecDepth 100000 in
theorem sign_e10 (s : ByteArray) (i : Int) (w : World) (h0 : 0 ≤ i) (hi : i < s.size) (hs : s.size ≤ 9223372036854775000) (hr : 0 ≤ bt s i) (cb : 225 ≤ bt s i ∧ bt s i < 237) (c1 : (s.size ≤ i + 2 ∨ bt s (i + 2) < 128 ∨ 191 < bt s (i + 2))) : SignSaid s i w := by
  have hv : (sgStep s i).getD 0 = 0 := by
    have hH := sgH_is (bt s i)
    repeat (first | rw [if_pos (by omega)] at hH | rw [if_neg (by omega)] at hH)
    rw [sgStep_getD, hH]
    try simp only [sgR_0, sgR_1, sgR_2, sgR_3, reduceCtorEq, if_false, if_true, show i + 1 + 1 = i + 2 by omega, show i + 2 + 1 = i + 3 by omega]
    (try repeat (first | rw [if_pos (by omega)] | rw [if_neg (by omega)]))
    all_goals first | rfl | ((repeat' split) <;> first | rfl | omega)
  unfold SignSaid
  rw [hv]
  clear hv
  go_enter Try.func93, Try.ntmps93
  go_wp2_with (first | (go_at_call 95; (with_reducible refine (in_yes _ _ _ _ _ (by omega)).mono ?_); rintro e w' ⟨rfl, ⟨nd, rfl⟩⟩) | (go_at_call 95; (with_reducible refine (in_no _ _ _ _ _ (by omega)).mono ?_); rintro e w' ⟨rfl, ⟨nd, rfl⟩⟩))
  go_ret
  exact ⟨rfl, by repeat (first | exact Drawn0.refl _ | apply Drawn0.step)⟩
set_option maxHeartbeats 8000000 in
set_option maxRecDepth 100000 in
theorem sign_e11 (s : ByteArray) (i : Int) (w : World) (h0 : 0 ≤ i) (hi : i < s.size) (hs : s.size ≤ 9223372036854775000) (hr : 0 ≤ bt s i) (cb : 225 ≤ bt s i ∧ bt s i < 237) (c1 : (i + 2 < s.size ∧ 128 ≤ bt s (i + 2) ∧ bt s (i + 2) ≤ 191)) (c2 : (i + 1 < s.size ∧ 128 ≤ bt s (i + 1) ∧ bt s (i + 1) ≤ 191)) : SignSaid s i w := by
  have hv : (sgStep s i).getD 0 = 3 := by
    have hH := sgH_is (bt s i)
    repeat (first | rw [if_pos (by omega)] at hH | rw [if_neg (by omega)] at hH)
    rw [sgStep_getD, hH]
    try simp only [sgR_0, sgR_1, sgR_2, sgR_3, reduceCtorEq, if_false, if_true, show i + 1 + 1 = i + 2 by omega, show i + 2 + 1 = i + 3 by omega]
    (try repeat (first | rw [if_pos (by omega)] | rw [if_neg (by omega)]))
    all_goals first | rfl | ((repeat' split) <;> first | rfl | omega)
  unfold SignSaid
  rw [hv]
  clear hv
  go_enter Try.func93, Try.ntmps93
  go_wp2_with (first | (go_at_call 95; (with_reducible refine (in_yes _ _ _ _ _ (by omega)).mono ?_); rintro e w' ⟨rfl, ⟨nd, rfl⟩⟩) | (go_at_call 95; (with_reducible refine (in_no _ _ _ _ _ (by omega)).mono ?_); rintro e w' ⟨rfl, ⟨nd, rfl⟩⟩))
  go_ret
  exact ⟨rfl, by repeat (first | exact Drawn0.refl _ | apply Drawn0.step)⟩
set_option maxHeartbeats 8000000 in
set_option maxRecDepth 100000 in
theorem sign_e12 (s : ByteArray) (i : Int) (w : World) (h0 : 0 ≤ i) (hi : i < s.size) (hs : s.size ≤ 9223372036854775000) (hr : 0 ≤ bt s i) (cb : 225 ≤ bt s i ∧ bt s i < 237) (c1 : (i + 2 < s.size ∧ 128 ≤ bt s (i + 2) ∧ bt s (i + 2) ≤ 191)) (c2 : (s.size ≤ i + 1 ∨ bt s (i + 1) < 128 ∨ 191 < bt s (i + 1))) (c3 : (s.size ≤ i + 3 ∨ bt s (i + 3) < 128 ∨ 191 < bt s (i + 3))) : SignSaid s i w := by
  have hv : (sgStep s i).getD 0 = 0 := by
    have hH := sgH_is (bt s i)
    repeat (first | rw [if_pos (by omega)] at hH | rw [if_neg (by omega)] at hH)
    rw [sgStep_getD, hH]
    try simp only [sgR_0, sgR_1, sgR_2, sgR_3, reduceCtorEq, if_false, if_true, show i + 1 + 1 = i + 2 by omega, show i + 2 + 1 = i + 3 by omega]
    (try repeat (first | rw [if_pos (by omega)] | rw [if_neg (by omega)]))
    all_goals first | rfl | ((repeat' split) <;> first | rfl | omega)
  unfold SignSaid
  rw [hv]
  clear hv
  go_enter Try.func93, Try.ntmps93
  go_wp2_with (first | (go_at_call 95; (with_reducible refine (in_yes _ _ _ _ _ (by omega)).mono ?_); rintro e w' ⟨rfl, ⟨nd, rfl⟩⟩) | (go_at_call 95; (with_reducible refine (in_no _ _ _ _ _ (by omega)).mono ?_); rintro e w' ⟨rfl, ⟨nd, rfl⟩⟩))
  go_ret
  exact ⟨rfl, by repeat (first | exact Drawn0.refl _ | apply Drawn0.step)⟩
set_option maxHeartbeats 8000000 in
set_option maxRecDepth 100000 in
theorem sign_e13 (s : ByteArray) (i : Int) (w : World) (h0 : 0 ≤ i) (hi : i < s.size) (hs : s.size ≤ 9223372036854775000) (hr : 0 ≤ bt s i) (cb : 225 ≤ bt s i ∧ bt s i < 237) (c1 : (i + 2 < s.size ∧ 128 ≤ bt s (i + 2) ∧ bt s (i + 2) ≤ 191)) (c2 : (s.size ≤ i + 1 ∨ bt s (i + 1) < 128 ∨ 191 < bt s (i + 1))) (c3 : (i + 3 < s.size ∧ 128 ≤ bt s (i + 3) ∧ bt s (i + 3) ≤ 191)) : SignSaid s i w := by
  have hv : (sgStep s i).getD 0 = 0 := by
    have hH := sgH_is (bt s i)
    repeat (first | rw [if_pos (by omega)] at hH | rw [if_neg (by omega)] at hH)
    rw [sgStep_getD, hH]
    try simp only [sgR_0, sgR_1, sgR_2, sgR_3, reduceCtorEq, if_false, if_true, show i + 1 + 1 = i + 2 by omega, show i + 2 + 1 = i + 3 by omega]
    (try repeat (first | rw [if_pos (by omega)] | rw [if_neg (by omega)]))
    all_goals first | rfl | ((repeat' split) <;> first | rfl | omega)
  unfold SignSaid
  rw [hv]
  clear hv
  go_enter Try.func93, Try.ntmps93
  go_wp2_with (first | (go_at_call 95; (with_reducible refine (in_yes _ _ _ _ _ (by omega)).mono ?_); rintro e w' ⟨rfl, ⟨nd, rfl⟩⟩) | (go_at_call 95; (with_reducible refine (in_no _ _ _ _ _ (by omega)).mono ?_); rintro e w' ⟨rfl, ⟨nd, rfl⟩⟩))
  go_ret
  exact ⟨rfl, by repeat (first | exact Drawn0.refl _ | apply Drawn0.step)⟩
set_option maxHeartbeats 8000000 in
set_option maxRecDepth 100000 in
theorem sign_ed0 (s : ByteArray) (i : Int) (w : World) (h0 : 0 ≤ i) (hi : i < s.size) (hs : s.size ≤ 9223372036854775000) (hr : 0 ≤ bt s i) (cb : bt s i = 237) (c1 : (s.size ≤ i + 2 ∨ bt s (i + 2) < 128 ∨ 191 < bt s (i + 2))) : SignSaid s i w := by
  have hv : (sgStep s i).getD 0 = 0 := by
    have hH := sgH_is (bt s i)
    repeat (first | rw [if_pos (by omega)] at hH | rw [if_neg (by omega)] at hH)
    rw [sgStep_getD, hH]
    try simp only [sgR_0, sgR_1, sgR_2, sgR_3, reduceCtorEq, if_false, if_true, show i + 1 + 1 = i + 2 by omega, show i + 2 + 1 = i + 3 by omega]
    (try repeat (first | rw [if_pos (by omega)] | rw [if_neg (by omega)]))
    all_goals first | rfl | ((repeat' split) <;> first | rfl | omega)
  unfold SignSaid
  rw [hv]
  clear hv
  go_enter Try.func93, Try.ntmps93
  go_wp2_with (first | (go_at_call 95; (with_reducible refine (in_yes _ _ _ _ _ (by omega)).mono ?_); rintro e w' ⟨rfl, ⟨nd, rfl⟩⟩) | (go_at_call 95; (with_reducible refine (in_no _ _ _ _ _ (by omega)).mono ?_); rintro e w' ⟨rfl, ⟨nd, rfl⟩⟩))
  go_ret
  exact ⟨rfl, by repeat (first | exact Drawn0.refl _ | apply Drawn0.step)⟩
set_option maxHeartbeats 8000000 in
set_option maxRecDepth 100000 in
theorem sign_ed1 (s : ByteArray) (i : Int) (w : World) (h0 : 0 ≤ i) (hi : i < s.size) (hs : s.size ≤ 9223372036854775000) (hr : 0 ≤ bt s i) (cb : bt s i = 237) (c1 : (i + 2 < s.size ∧ 128 ≤ bt s (i + 2) ∧ bt s (i + 2) ≤ 191)) (c2 : (i + 1 < s.size ∧ 128 ≤ bt s (i + 1) ∧ bt s (i + 1) ≤ 159)) : SignSaid s i w := by
  have hv : (sgStep s i).getD 0 = 3 := by
    have hH := sgH_is (bt s i)
    repeat (first | rw [if_pos (by omega)] at hH | rw [if_neg (by omega)] at hH)
    rw [sgStep_getD, hH]
    try simp only [sgR_0, sgR_1, sgR_2, sgR_3, reduceCtorEq, if_false, if_true, show i + 1 + 1 = i + 2 by omega, show i + 2 + 1 = i + 3 by omega]
    (try repeat (first | rw [if_pos (by omega)] | rw [if_neg (by omega)]))
    all_goals first | rfl | ((repeat' split) <;> first | rfl | omega)
  unfold SignSaid
  rw [hv]
  clear hv
  go_enter Try.func93, Try.ntmps93
  go_wp2_with (first | (go_at_call 95; (with_reducible refine (in_yes _ _ _ _ _ (by omega)).mono ?_); rintro e w' ⟨rfl, ⟨nd, rfl⟩⟩) | (go_at_call 95; (with_reducible refine (in_no _ _ _ _ _ (by omega)).mono ?_); rintro e w' ⟨rfl, ⟨nd, rfl⟩⟩))
  go_ret
  exact ⟨rfl, by repeat (first | exact Drawn0.refl _ | apply Drawn0.step)⟩
set_option maxHeartbeats 8000000 in
set_option maxRecDepth 100000 in
theorem sign_ed2 (s : ByteArray) (i : Int) (w : World) (h0 : 0 ≤ i) (hi : i < s.size) (hs : s.size ≤ 9223372036854775000) (hr : 0 ≤ bt s i) (cb : bt s i = 237) (c1 : (i + 2 < s.size ∧ 128 ≤ bt s (i + 2) ∧ bt s (i + 2) ≤ 191)) (c2 : (s.size ≤ i + 1 ∨ bt s (i + 1) < 128 ∨ 159 < bt s (i + 1))) (c3 : (s.size ≤ i + 3 ∨ bt s (i + 3) < 128 ∨ 191 < bt s (i + 3))) : SignSaid s i w := by
  have hv : (sgStep s i).getD 0 = 0 := by
    have hH := sgH_is (bt s i)
    repeat (first | rw [if_pos (by omega)] at hH | rw [if_neg (by omega)] at hH)
    rw [sgStep_getD, hH]
    try simp only [sgR_0, sgR_1, sgR_2, sgR_3, reduceCtorEq, if_false, if_true, show i + 1 + 1 = i + 2 by omega, show i + 2 + 1 = i + 3 by omega]
    (try repeat (first | rw [if_pos (by omega)] | rw [if_neg (by omega)]))
    all_goals first | rfl | ((repeat' split) <;> first | rfl | omega)
  unfold SignSaid
  rw [hv]
  clear hv
  go_enter Try.func93, Try.ntmps93
  go_wp2_with (first | (go_at_call 95; (with_reducible refine (in_yes _ _ _ _ _ (by omega)).mono ?_); rintro e w' ⟨rfl, ⟨nd, rfl⟩⟩) | (go_at_call 95; (with_reducible refine (in_no _ _ _ _ _ (by omega)).mono ?_); rintro e w' ⟨rfl, ⟨nd, rfl⟩⟩))
  go_ret
  exact ⟨rfl, by repeat (first | exact Drawn0.refl _ | apply Drawn0.step)⟩
set_option maxHeartbeats 8000000 in
set_option maxRecDepth 100000 in
theorem sign_ed3 (s : ByteArray) (i : Int) (w : World) (h0 : 0 ≤ i) (hi : i < s.size) (hs : s.size ≤ 9223372036854775000) (hr : 0 ≤ bt s i) (cb : bt s i = 237) (c1 : (i + 2 < s.size ∧ 128 ≤ bt s (i + 2) ∧ bt s (i + 2) ≤ 191)) (c2 : (s.size ≤ i + 1 ∨ bt s (i + 1) < 128 ∨ 159 < bt s (i + 1))) (c3 : (i + 3 < s.size ∧ 128 ≤ bt s (i + 3) ∧ bt s (i + 3) ≤ 191)) : SignSaid s i w := by
  have hv : (sgStep s i).getD 0 = 0 := by
    have hH := sgH_is (bt s i)
    repeat (first | rw [if_pos (by omega)] at hH | rw [if_neg (by omega)] at hH)
    rw [sgStep_getD, hH]
    try simp only [sgR_0, sgR_1, sgR_2, sgR_3, reduceCtorEq, if_false, if_true, show i + 1 + 1 = i + 2 by omega, show i + 2 + 1 = i + 3 by omega]
    (try repeat (first | rw [if_pos (by omega)] | rw [if_neg (by omega)]))
    all_goals first | rfl | ((repeat' split) <;> first | rfl | omega)
  unfold SignSaid
  rw [hv]
  clear hv
  go_enter Try.func93, Try.ntmps93
  go_wp2_with (first | (go_at_call 95; (with_reducible refine (in_yes _ _ _ _ _ (by omega)).mono ?_); rintro e w' ⟨rfl, ⟨nd, rfl⟩⟩) | (go_at_call 95; (with_reducible refine (in_no _ _ _ _ _ (by omega)).mono ?_); rintro e w' ⟨rfl, ⟨nd, rfl⟩⟩))
  go_ret
  exact ⟨rfl, by repeat (first | exact Drawn0.refl _ | apply Drawn0.step)⟩
set_option maxHeartbeats 8000000 in
set_option maxRecDepth 100000 in
theorem sign_ee0 (s : ByteArray) (i : Int) (w : World) (h0 : 0 ≤ i) (hi : i < s.size) (hs : s.size ≤ 9223372036854775000) (hr : 0 ≤ bt s i) (cb : 238 ≤ bt s i ∧ bt s i < 240) (c1 : (s.size ≤ i + 2 ∨ bt s (i + 2) < 128 ∨ 191 < bt s (i + 2))) : SignSaid s i w := by
  have hv : (sgStep s i).getD 0 = 0 := by
    have hH := sgH_is (bt s i)
    repeat (first | rw [if_pos (by omega)] at hH | rw [if_neg (by omega)] at hH)
    rw [sgStep_getD, hH]
    try simp only [sgR_0, sgR_1, sgR_2, sgR_3, reduceCtorEq, if_false, if_true, show i + 1 + 1 = i + 2 by omega, show i + 2 + 1 = i + 3 by omega]
    (try repeat (first | rw [if_pos (by omega)] | rw [if_neg (by omega)]))
    all_goals first | rfl | ((repeat' split) <;> first | rfl | omega)
  unfold SignSaid
  rw [hv]
  clear hv
  go_enter Try.func93, Try.ntmps93
  go_wp2_with (first | (go_at_call 95; (with_reducible refine (in_yes _ _ _ _ _ (by omega)).mono ?_); rintro e w' ⟨rfl, ⟨nd, rfl⟩⟩) | (go_at_call 95; (with_reducible refine (in_no _ _ _ _ _ (by omega)).mono ?_); rintro e w' ⟨rfl, ⟨nd, rfl⟩⟩))
  go_ret
  exact ⟨rfl, by repeat (first | exact Drawn0.refl _ | apply Drawn0.step)⟩
set_option maxHeartbeats 8000000 in
set_option maxRecDepth 100000 in
theorem sign_ee1 (s : ByteArray) (i : Int) (w : World) (h0 : 0 ≤ i) (hi : i < s.size) (hs : s.size ≤ 9223372036854775000) (hr : 0 ≤ bt s i) (cb : 238 ≤ bt s i ∧ bt s i < 240) (c1 : (i + 2 < s.size ∧ 128 ≤ bt s (i + 2) ∧ bt s (i + 2) ≤ 191)) (c2 : (i + 1 < s.size ∧ 128 ≤ bt s (i + 1) ∧ bt s (i + 1) ≤ 191)) : SignSaid s i w := by
  have hv : (sgStep s i).getD 0 = 3 := by
    have hH := sgH_is (bt s i)
    repeat (first | rw [if_pos (by omega)] at hH | rw [if_neg (by omega)] at hH)
    rw [sgStep_getD, hH]
    try simp only [sgR_0, sgR_1, sgR_2, sgR_3, reduceCtorEq, if_false, if_true, show i + 1 + 1 = i + 2 by omega, show i + 2 + 1 = i + 3 by omega]
    (try repeat (first | rw [if_pos (by omega)] | rw [if_neg (by omega)]))
    all_goals first | rfl | ((repeat' split) <;> first | rfl | omega)
  unfold SignSaid
  rw [hv]
  clear hv
  go_enter Try.func93, Try.ntmps93
  go_wp2_with (first | (go_at_call 95; (with_reducible refine (in_yes _ _ _ _ _ (by omega)).mono ?_); rintro e w' ⟨rfl, ⟨nd, rfl⟩⟩) | (go_at_call 95; (with_reducible refine (in_no _ _ _ _ _ (by omega)).mono ?_); rintro e w' ⟨rfl, ⟨nd, rfl⟩⟩))
  go_ret
  exact ⟨rfl, by repeat (first | exact Drawn0.refl _ | apply Drawn0.step)⟩
set_option maxHeartbeats 8000000 in
set_option maxRecDepth 100000 in
theorem sign_ee2 (s : ByteArray) (i : Int) (w : World) (h0 : 0 ≤ i) (hi : i < s.size) (hs : s.size ≤ 9223372036854775000) (hr : 0 ≤ bt s i) (cb : 238 ≤ bt s i ∧ bt s i < 240) (c1 : (i + 2 < s.size ∧ 128 ≤ bt s (i + 2) ∧ bt s (i + 2) ≤ 191)) (c2 : (s.size ≤ i + 1 ∨ bt s (i + 1) < 128 ∨ 191 < bt s (i + 1))) (c3 : (s.size ≤ i + 3 ∨ bt s (i + 3) < 128 ∨ 191 < bt s (i + 3))) : SignSaid s i w := by
  have hv : (sgStep s i).getD 0 = 0 := by
    have hH := sgH_is (bt s i)
    repeat (first | rw [if_pos (by omega)] at hH | rw [if_neg (by omega)] at hH)
    rw [sgStep_getD, hH]
    try simp only [sgR_0, sgR_1, sgR_2, sgR_3, reduceCtorEq, if_false, if_true, show i + 1 + 1 = i + 2 by omega, show i + 2 + 1 = i + 3 by omega]
    (try repeat (first | rw [if_pos (by omega)] | rw [if_neg (by omega)]))
    all_goals first | rfl | ((repeat' split) <;> first | rfl | omega)
  unfold SignSaid
  rw [hv]
  clear hv
  go_enter Try.func93, Try.ntmps93
  go_wp2_with (first | (go_at_call 95; (with_reducible refine (in_yes _ _ _ _ _ (by omega)).mono ?_); rintro e w' ⟨rfl, ⟨nd, rfl⟩⟩) | (go_at_call 95; (with_reducible refine (in_no _ _ _ _ _ (by omega)).mono ?_); rintro e w' ⟨rfl, ⟨nd, rfl⟩⟩))
  go_ret
  exact ⟨rfl, by repeat (first | exact Drawn0.refl _ | apply Drawn0.step)⟩
set_option maxHeartbeats 8000000 in
set_option maxRecDepth 100000 in
theorem sign_ee3 (s : ByteArray) (i : Int) (w : World) (h0 : 0 ≤ i) (hi : i < s.size) (hs : s.size ≤ 9223372036854775000) (hr : 0 ≤ bt s i) (cb : 238 ≤ bt s i ∧ bt s i < 240) (c1 : (i + 2 < s.size ∧ 128 ≤ bt s (i + 2) ∧ bt s (i + 2) ≤ 191)) (c2 : (s.size ≤ i + 1 ∨ bt s (i + 1) < 128 ∨ 191 < bt s (i + 1))) (c3 : (i + 3 < s.size ∧ 128 ≤ bt s (i + 3) ∧ bt s (i + 3) ≤ 191)) : SignSaid s i w := by
  have hv : (sgStep s i).getD 0 = 0 := by
    have hH := sgH_is (bt s i)
    repeat (first | rw [if_pos (by omega)] at hH | rw [if_neg (by omega)] at hH)
    rw [sgStep_getD, hH]
    try simp only [sgR_0, sgR_1, sgR_2, sgR_3, reduceCtorEq, if_false, if_true, show i + 1 + 1 = i + 2 by omega, show i + 2 + 1 = i + 3 by omega]
    (try repeat (first | rw [if_pos (by omega)] | rw [if_neg (by omega)]))
    all_goals first | rfl | ((repeat' split) <;> first | rfl | omega)
  unfold SignSaid
  rw [hv]
  clear hv
  go_enter Try.func93, Try.ntmps93
  go_wp2_with (first | (go_at_call 95; (with_reducible refine (in_yes _ _ _ _ _ (by omega)).mono ?_); rintro e w' ⟨rfl, ⟨nd, rfl⟩⟩) | (go_at_call 95; (with_reducible refine (in_no _ _ _ _ _ (by omega)).mono ?_); rintro e w' ⟨rfl, ⟨nd, rfl⟩⟩))
  go_ret
  exact ⟨rfl, by repeat (first | exact Drawn0.refl _ | apply Drawn0.step)⟩
set_option maxHeartbeats 8000000 in
set_option maxRecDepth 100000 in
theorem sign_f00 (s : ByteArray) (i : Int) (w : World) (h0 : 0 ≤ i) (hi : i < s.size) (hs : s.size ≤ 9223372036854775000) (hr : 0 ≤ bt s i) (cb : bt s i = 240) (c1 : (s.size ≤ i + 2 ∨ bt s (i + 2) < 128 ∨ 191 < bt s (i + 2))) : SignSaid s i w := by
  have hv : (sgStep s i).getD 0 = 0 := by
    have hH := sgH_is (bt s i)
    repeat (first | rw [if_pos (by omega)] at hH | rw [if_neg (by omega)] at hH)
    rw [sgStep_getD, hH]
    try simp only [sgR_0, sgR_1, sgR_2, sgR_3, reduceCtorEq, if_false, if_true, show i + 1 + 1 = i + 2 by omega, show i + 2 + 1 = i + 3 by omega]
    (try repeat (first | rw [if_pos (by omega)] | rw [if_neg (by omega)]))
    all_goals first | rfl | ((repeat' split) <;> first | rfl | omega)
  unfold SignSaid
  rw [hv]
  clear hv
  go_enter Try.func93, Try.ntmps93
  go_wp2_with (first | (go_at_call 95; (with_reducible refine (in_yes _ _ _ _ _ (by omega)).mono ?_); rintro e w' ⟨rfl, ⟨nd, rfl⟩⟩) | (go_at_call 95; (with_reducible refine (in_no _ _ _ _ _ (by omega)).mono ?_); rintro e w' ⟨rfl, ⟨nd, rfl⟩⟩))
  go_ret
  exact ⟨rfl, by repeat (first | exact Drawn0.refl _ | apply Drawn0.step)⟩
set_option maxHeartbeats 8000000 in
set_option maxRecDepth 100000 in
theorem sign_f01 (s : ByteArray) (i : Int) (w : World) (h0 : 0 ≤ i) (hi : i < s.size) (hs : s.size ≤ 9223372036854775000) (hr : 0 ≤ bt s i) (cb : bt s i = 240) (c1 : (i + 2 < s.size ∧ 128 ≤ bt s (i + 2) ∧ bt s (i + 2) ≤ 191)) (c2 : (s.size ≤ i + 3 ∨ bt s (i + 3) < 128 ∨ 191 < bt s (i + 3))) : SignSaid s i w := by
  have hv : (sgStep s i).getD 0 = 0 := by
    have hH := sgH_is (bt s i)
    repeat (first | rw [if_pos (by omega)] at hH | rw [if_neg (by omega)] at hH)
    rw [sgStep_getD, hH]
    try simp only [sgR_0, sgR_1, sgR_2, sgR_3, reduceCtorEq, if_false, if_true, show i + 1 + 1 = i + 2 by omega, show i + 2 + 1 = i + 3 by omega]
    (try repeat (first | rw [if_pos (by omega)] | rw [if_neg (by omega)]))
    all_goals first | rfl | ((repeat' split) <;> first | rfl | omega)
  unfold SignSaid
  rw [hv]
  clear hv
  go_enter Try.func93, Try.ntmps93
  go_wp2_with (first | (go_at_call 95; (with_reducible refine (in_yes _ _ _ _ _ (by omega)).mono ?_); rintro e w' ⟨rfl, ⟨nd, rfl⟩⟩) | (go_at_call 95; (with_reducible refine (in_no _ _ _ _ _ (by omega)).mono ?_); rintro e w' ⟨rfl, ⟨nd, rfl⟩⟩))
  go_ret
  exact ⟨rfl, by repeat (first | exact Drawn0.refl _ | apply Drawn0.step)⟩
set_option maxHeartbeats 8000000 in
set_option maxRecDepth 100000 in
theorem sign_f02 (s : ByteArray) (i : Int) (w : World) (h0 : 0 ≤ i) (hi : i < s.size) (hs : s.size ≤ 9223372036854775000) (hr : 0 ≤ bt s i) (cb : bt s i = 240) (c1 : (i + 2 < s.size ∧ 128 ≤ bt s (i + 2) ∧ bt s (i + 2) ≤ 191)) (c2 : (i + 3 < s.size ∧ 128 ≤ bt s (i + 3) ∧ bt s (i + 3) ≤ 191)) (c3 : (i + 1 < s.size ∧ 144 ≤ bt s (i + 1) ∧ bt s (i + 1) ≤ 191)) : SignSaid s i w := by
  have hv : (sgStep s i).getD 0 = 4 := by
    have hH := sgH_is (bt s i)
    repeat (first | rw [if_pos (by omega)] at hH | rw [if_neg (by omega)] at hH)
    rw [sgStep_getD, hH]
    try simp only [sgR_0, sgR_1, sgR_2, sgR_3, reduceCtorEq, if_false, if_true, show i + 1 + 1 = i + 2 by omega, show i + 2 + 1 = i + 3 by omega]
    (try repeat (first | rw [if_pos (by omega)] | rw [if_neg (by omega)]))
    all_goals first | rfl | ((repeat' split) <;> first | rfl | omega)
  unfold SignSaid
  rw [hv]
  clear hv
  go_enter Try.func93, Try.ntmps93
  go_wp2_with (first | (go_at_call 95; (with_reducible refine (in_yes _ _ _ _ _ (by omega)).mono ?_); rintro e w' ⟨rfl, ⟨nd, rfl⟩⟩) | (go_at_call 95; (with_reducible refine (in_no _ _ _ _ _ (by omega)).mono ?_); rintro e w' ⟨rfl, ⟨nd, rfl⟩⟩))
  go_ret
  exact ⟨rfl, by repeat (first | exact Drawn0.refl _ | apply Drawn0.step)⟩
set_option maxHeartbeats 8000000 in
set_option maxRecDepth 100000 in
theorem sign_f03 (s : ByteArray) (i : Int) (w : World) (h0 : 0 ≤ i) (hi : i < s.size) (hs : s.size ≤ 9223372036854775000) (hr : 0 ≤ bt s i) (cb : bt s i = 240) (c1 : (i + 2 < s.size ∧ 128 ≤ bt s (i + 2) ∧ bt s (i + 2) ≤ 191)) (c2 : (i + 3 < s.size ∧ 128 ≤ bt s (i + 3) ∧ bt s (i + 3) ≤ 191)) (c3 : (s.size ≤ i + 1 ∨ bt s (i + 1) < 144 ∨ 191 < bt s (i + 1))) : SignSaid s i w := by
  have hv : (sgStep s i).getD 0 = 0 := by
    have hH := sgH_is (bt s i)
    repeat (first | rw [if_pos (by omega)] at hH | rw [if_neg (by omega)] at hH)
    rw [sgStep_getD, hH]
    try simp only [sgR_0, sgR_1, sgR_2, sgR_3, reduceCtorEq, if_false, if_true, show i + 1 + 1 = i + 2 by omega, show i + 2 + 1 = i + 3 by omega]
    (try repeat (first | rw [if_pos (by omega)] | rw [if_neg (by omega)]))
    all_goals first | rfl | ((repeat' split) <;> first | rfl | omega)
  unfold SignSaid
  rw [hv]
  clear hv
  go_enter Try.func93, Try.ntmps93
  go_wp2_with (first | (go_at_call 95; (with_reducible refine (in_yes _ _ _ _ _ (by omega)).mono ?_); rintro e w' ⟨rfl, ⟨nd, rfl⟩⟩) | (go_at_call 95; (with_reducible refine (in_no _ _ _ _ _ (by omega)).mono ?_); rintro e w' ⟨rfl, ⟨nd, rfl⟩⟩))
  go_ret
  exact ⟨rfl, by repeat (first | exact Drawn0.refl _ | apply Drawn0.step)⟩
set_option maxHeartbeats 8000000 in
set_option maxRecDepth 100000 in
theorem sign_f10 (s : ByteArray) (i : Int) (w : World) (h0 : 0 ≤ i) (hi : i < s.size) (hs : s.size ≤ 9223372036854775000) (hr : 0 ≤ bt s i) (cb : 241 ≤ bt s i ∧ bt s i < 244) (c1 : (s.size ≤ i + 2 ∨ bt s (i + 2) < 128 ∨ 191 < bt s (i + 2))) : SignSaid s i w := by
  have hv : (sgStep s i).getD 0 = 0 := by
    have hH := sgH_is (bt s i)
    repeat (first | rw [if_pos (by omega)] at hH | rw [if_neg (by omega)] at hH)
    rw [sgStep_getD, hH]
    try simp only [sgR_0, sgR_1, sgR_2, sgR_3, reduceCtorEq, if_false, if_true, show i + 1 + 1 = i + 2 by omega, show i + 2 + 1 = i + 3 by omega]
    (try repeat (first | rw [if_pos (by omega)] | rw [if_neg (by omega)]))
    all_goals first | rfl | ((repeat' split) <;> first | rfl | omega)
  unfold SignSaid
  rw [hv]
  clear hv
  go_enter Try.func93, Try.ntmps93
  go_wp2_with (first | (go_at_call 95; (with_reducible refine (in_yes _ _ _ _ _ (by omega)).mono ?_); rintro e w' ⟨rfl, ⟨nd, rfl⟩⟩) | (go_at_call 95; (with_reducible refine (in_no _ _ _ _ _ (by omega)).mono ?_); rintro e w' ⟨rfl, ⟨nd, rfl⟩⟩))
  go_ret
  exact ⟨rfl, by repeat (first | exact Drawn0.refl _ | apply Drawn0.step)⟩
set_option maxHeartbeats 8000000 in
set_option maxRecDepth 100000 in
theorem sign_f11 (s : ByteArray) (i : Int) (w : World) (h0 : 0 ≤ i) (hi : i < s.size) (hs : s.size ≤ 9223372036854775000) (hr : 0 ≤ bt s i) (cb : 241 ≤ bt s i ∧ bt s i < 244) (c1 : (i + 2 < s.size ∧ 128 ≤ bt s (i + 2) ∧ bt s (i + 2) ≤ 191)) (c2 : (s.size ≤ i + 3 ∨ bt s (i + 3) < 128 ∨ 191 < bt s (i + 3))) : SignSaid s i w := by
  have hv : (sgStep s i).getD 0 = 0 := by
    have hH := sgH_is (bt s i)
    repeat (first | rw [if_pos (by omega)] at hH | rw [if_neg (by omega)] at hH)
    rw [sgStep_getD, hH]
    try simp only [sgR_0, sgR_1, sgR_2, sgR_3, reduceCtorEq, if_false, if_true, show i + 1 + 1 = i + 2 by omega, show i + 2 + 1 = i + 3 by omega]
    (try repeat (first | rw [if_pos (by omega)] | rw [if_neg (by omega)]))
    all_goals first | rfl | ((repeat' split) <;> first | rfl | omega)
  unfold SignSaid
  rw [hv]
  clear hv
  go_enter Try.func93, Try.ntmps93
  go_wp2_with (first | (go_at_call 95; (with_reducible refine (in_yes _ _ _ _ _ (by omega)).mono ?_); rintro e w' ⟨rfl, ⟨nd, rfl⟩⟩) | (go_at_call 95; (with_reducible refine (in_no _ _ _ _ _ (by omega)).mono ?_); rintro e w' ⟨rfl, ⟨nd, rfl⟩⟩))
  go_ret
  exact ⟨rfl, by repeat (first | exact Drawn0.refl _ | apply Drawn0.step)⟩
set_option maxHeartbeats 8000000 in
set_option maxRecDepth 100000 in
theorem sign_f12 (s : ByteArray) (i : Int) (w : World) (h0 : 0 ≤ i) (hi : i < s.size) (hs : s.size ≤ 9223372036854775000) (hr : 0 ≤ bt s i) (cb : 241 ≤ bt s i ∧ bt s i < 244) (c1 : (i + 2 < s.size ∧ 128 ≤ bt s (i + 2) ∧ bt s (i + 2) ≤ 191)) (c2 : (i + 3 < s.size ∧ 128 ≤ bt s (i + 3) ∧ bt s (i + 3) ≤ 191)) (c3 : (i + 1 < s.size ∧ 128 ≤ bt s (i + 1) ∧ bt s (i + 1) ≤ 191)) : SignSaid s i w := by
  have hv : (sgStep s i).getD 0 = 4 := by
    have hH := sgH_is (bt s i)
    repeat (first | rw [if_pos (by omega)] at hH | rw [if_neg (by omega)] at hH)
    rw [sgStep_getD, hH]
    try simp only [sgR_0, sgR_1, sgR_2, sgR_3, reduceCtorEq, if_false, if_true, show i + 1 + 1 = i + 2 by omega, show i + 2 + 1 = i + 3 by omega]
    (try repeat (first | rw [if_pos (by omega)] | rw [if_neg (by omega)]))
    all_goals first | rfl | ((repeat' split) <;> first | rfl | omega)
  unfold SignSaid
  rw [hv]
  clear hv
  go_enter Try.func93, Try.ntmps93
  go_wp2_with (first | (go_at_call 95; (with_reducible refine (in_yes _ _ _ _ _ (by omega)).mono ?_); rintro e w' ⟨rfl, ⟨nd, rfl⟩⟩) | (go_at_call 95; (with_reducible refine (in_no _ _ _ _ _ (by omega)).mono ?_); rintro e w' ⟨rfl, ⟨nd, rfl⟩⟩))
  go_ret
  exact ⟨rfl, by repeat (first | exact Drawn0.refl _ | apply Drawn0.step)⟩
set_option maxHeartbeats 8000000 in
set_option maxRecDepth 100000 in
theorem sign_f13 (s : ByteArray) (i : Int) (w : World) (h0 : 0 ≤ i) (hi : i < s.size) (hs : s.size ≤ 9223372036854775000) (hr : 0 ≤ bt s i) (cb : 241 ≤ bt s i ∧ bt s i < 244) (c1 : (i + 2 < s.size ∧ 128 ≤ bt s (i + 2) ∧ bt s (i + 2) ≤ 191)) (c2 : (i + 3 < s.size ∧ 128 ≤ bt s (i + 3) ∧ bt s (i + 3) ≤ 191)) (c3 : (s.size ≤ i + 1 ∨ bt s (i + 1) < 128 ∨ 191 < bt s (i + 1))) : SignSaid s i w := by
  have hv : (sgStep s i).getD 0 = 0 := by
    have hH := sgH_is (bt s i)
    repeat (first | rw [if_pos (by omega)] at hH | rw [if_neg (by omega)] at hH)
    rw [sgStep_getD, hH]
    try simp only [sgR_0, sgR_1, sgR_2, sgR_3, reduceCtorEq, if_false, if_true, show i + 1 + 1 = i + 2 by omega, show i + 2 + 1 = i + 3 by omega]
    (try repeat (first | rw [if_pos (by omega)] | rw [if_neg (by omega)]))
    all_goals first | rfl | ((repeat' split) <;> first | rfl | omega)
  unfold SignSaid
  rw [hv]
  clear hv
  go_enter Try.func93, Try.ntmps93
  go_wp2_with (first | (go_at_call 95; (with_reducible refine (in_yes _ _ _ _ _ (by omega)).mono ?_); rintro e w' ⟨rfl, ⟨nd, rfl⟩⟩) | (go_at_call 95; (with_reducible refine (in_no _ _ _ _ _ (by omega)).mono ?_); rintro e w' ⟨rfl, ⟨nd, rfl⟩⟩))
  go_ret
  exact ⟨rfl, by repeat (first | exact Drawn0.refl _ | apply Drawn0.step)⟩
set_option maxHeartbeats 8000000 in
set_option maxRecDepth 100000 in
theorem sign_f40 (s : ByteArray) (i : Int) (w : World) (h0 : 0 ≤ i) (hi : i < s.size) (hs : s.size ≤ 9223372036854775000) (hr : 0 ≤ bt s i) (cb : bt s i = 244) (c1 : (s.size ≤ i + 2 ∨ bt s (i + 2) < 128 ∨ 191 < bt s (i + 2))) : SignSaid s i w := by
  have hv : (sgStep s i).getD 0 = 0 := by
    have hH := sgH_is (bt s i)
    repeat (first | rw [if_pos (by omega)] at hH | rw [if_neg (by omega)] at hH)
    rw [sgStep_getD, hH]
    try simp only [sgR_0, sgR_1, sgR_2, sgR_3, reduceCtorEq, if_false, if_true, show i + 1 + 1 = i + 2 by omega, show i + 2 + 1 = i + 3 by omega]
    (try repeat (first | rw [if_pos (by omega)] | rw [if_neg (by omega)]))
    all_goals first | rfl | ((repeat' split) <;> first | rfl | omega)
  unfold SignSaid
  rw [hv]
  clear hv
  go_enter Try.func93, Try.ntmps93
  go_wp2_with (first | (go_at_call 95; (with_reducible refine (in_yes _ _ _ _ _ (by omega)).mono ?_); rintro e w' ⟨rfl, ⟨nd, rfl⟩⟩) | (go_at_call 95; (with_reducible refine (in_no _ _ _ _ _ (by omega)).mono ?_); rintro e w' ⟨rfl, ⟨nd, rfl⟩⟩))
  go_ret
  exact ⟨rfl, by repeat (first | exact Drawn0.refl _ | apply Drawn0.step)⟩
set_option maxHeartbeats 8000000 in
set_option maxRecDepth 100000 in
theorem sign_f41 (s : ByteArray) (i : Int) (w : World) (h0 : 0 ≤ i) (hi : i < s.size) (hs : s.size ≤ 9223372036854775000) (hr : 0 ≤ bt s i) (cb : bt s i = 244) (c1 : (i + 2 < s.size ∧ 128 ≤ bt s (i + 2) ∧ bt s (i + 2) ≤ 191)) (c2 : (s.size ≤ i + 3 ∨ bt s (i + 3) < 128 ∨ 191 < bt s (i + 3))) : SignSaid s i w := by
  have hv : (sgStep s i).getD 0 = 0 := by
    have hH := sgH_is (bt s i)
    repeat (first | rw [if_pos (by omega)] at hH | rw [if_neg (by omega)] at hH)
    rw [sgStep_getD, hH]
    try simp only [sgR_0, sgR_1, sgR_2, sgR_3, reduceCtorEq, if_false, if_true, show i + 1 + 1 = i + 2 by omega, show i + 2 + 1 = i + 3 by omega]
    (try repeat (first | rw [if_pos (by omega)] | rw [if_neg (by omega)]))
    all_goals first | rfl | ((repeat' split) <;> first | rfl | omega)
  unfold SignSaid
  rw [hv]
  clear hv
  go_enter Try.func93, Try.ntmps93
  go_wp2_with (first | (go_at_call 95; (with_reducible refine (in_yes _ _ _ _ _ (by omega)).mono ?_); rintro e w' ⟨rfl, ⟨nd, rfl⟩⟩) | (go_at_call 95; (with_reducible refine (in_no _ _ _ _ _ (by omega)).mono ?_); rintro e w' ⟨rfl, ⟨nd, rfl⟩⟩))
  go_ret
  exact ⟨rfl, by repeat (first | exact Drawn0.refl _ | apply Drawn0.step)⟩
set_option maxHeartbeats 8000000 in
set_option maxRecDepth 100000 in
theorem sign_f42 (s : ByteArray) (i : Int) (w : World) (h0 : 0 ≤ i) (hi : i < s.size) (hs : s.size ≤ 9223372036854775000) (hr : 0 ≤ bt s i) (cb : bt s i = 244) (c1 : (i + 2 < s.size ∧ 128 ≤ bt s (i + 2) ∧ bt s (i + 2) ≤ 191)) (c2 : (i + 3 < s.size ∧ 128 ≤ bt s (i + 3) ∧ bt s (i + 3) ≤ 191)) (c3 : (i + 1 < s.size ∧ 128 ≤ bt s (i + 1) ∧ bt s (i + 1) ≤ 143)) : SignSaid s i w := by
  have hv : (sgStep s i).getD 0 = 4 := by
    have hH := sgH_is (bt s i)
    repeat (first | rw [if_pos (by omega)] at hH | rw [if_neg (by omega)] at hH)
    rw [sgStep_getD, hH]
    try simp only [sgR_0, sgR_1, sgR_2, sgR_3, reduceCtorEq, if_false, if_true, show i + 1 + 1 = i + 2 by omega, show i + 2 + 1 = i + 3 by omega]
    (try repeat (first | rw [if_pos (by omega)] | rw [if_neg (by omega)]))
    all_goals first | rfl | ((repeat' split) <;> first | rfl | omega)
  unfold SignSaid
  rw [hv]
  clear hv
  go_enter Try.func93, Try.ntmps93
  go_wp2_with (first | (go_at_call 95; (with_reducible refine (in_yes _ _ _ _ _ (by omega)).mono ?_); rintro e w' ⟨rfl, ⟨nd, rfl⟩⟩) | (go_at_call 95; (with_reducible refine (in_no _ _ _ _ _ (by omega)).mono ?_); rintro e w' ⟨rfl, ⟨nd, rfl⟩⟩))
  go_ret
  exact ⟨rfl, by repeat (first | exact Drawn0.refl _ | apply Drawn0.step)⟩
set_option maxHeartbeats 8000000 in
set_option maxRecDepth 100000 in
theorem sign_f43 (s : ByteArray) (i : Int) (w : World) (h0 : 0 ≤ i) (hi : i < s.size) (hs : s.size ≤ 9223372036854775000) (hr : 0 ≤ bt s i) (cb : bt s i = 244) (c1 : (i + 2 < s.size ∧ 128 ≤ bt s (i + 2) ∧ bt s (i + 2) ≤ 191)) (c2 : (i + 3 < s.size ∧ 128 ≤ bt s (i + 3) ∧ bt s (i + 3) ≤ 191)) (c3 : (s.size ≤ i + 1 ∨ bt s (i + 1) < 128 ∨ 143 < bt s (i + 1))) : SignSaid s i w := by
  have hv : (sgStep s i).getD 0 = 0 := by
    have hH := sgH_is (bt s i)
    repeat (first | rw [if_pos (by omega)] at hH | rw [if_neg (by omega)] at hH)
    rw [sgStep_getD, hH]
    try simp only [sgR_0, sgR_1, sgR_2, sgR_3, reduceCtorEq, if_false, if_true, show i + 1 + 1 = i + 2 by omega, show i + 2 + 1 = i + 3 by omega]
    (try repeat (first | rw [if_pos (by omega)] | rw [if_neg (by omega)]))
    all_goals first | rfl | ((repeat' split) <;> first | rfl | omega)
  unfold SignSaid
  rw [hv]
  clear hv
  go_enter Try.func93, Try.ntmps93
  go_wp2_with (first | (go_at_call 95; (with_reducible refine (in_yes _ _ _ _ _ (by omega)).mono ?_); rintro e w' ⟨rfl, ⟨nd, rfl⟩⟩) | (go_at_call 95; (with_reducible refine (in_no _ _ _ _ _ (by omega)).mono ?_); rintro e w' ⟨rfl, ⟨nd, rfl⟩⟩))
  go_ret
  exact ⟨rfl, by repeat (first | exact Drawn0.refl _ | apply Drawn0.step)⟩
theorem bonsairef04_sign.calls (a0 : ByteArray) (a1 : Int) (r : Int) (w : World) (h : bonsairef04_sign.f a0 a1 = some r) :
    Calls Try.prog 93 #[.string a0, .int .i64 a1] w fun e w' => e = .returned (.int .i64 r) ∧ Drawn0 w w' := by
  unfold bonsairef04_sign.f at h
  split at h
  · rename_i hc
    obtain ⟨h0, hi, hs⟩ := hc
    cases h
    have hr := (bt_range a0 a1).1
    have q1 := fun lo hi => (show (a1 + 1 < (a0.size : Int) ∧ lo ≤ bt a0 (a1 + 1) ∧ bt a0 (a1 + 1) ≤ hi) ∨ ((a0.size : Int) ≤ a1 + 1 ∨ bt a0 (a1 + 1) < lo ∨ hi < bt a0 (a1 + 1)) by omega)
    have q2 : (a1 + 2 < (a0.size : Int) ∧ 128 ≤ bt a0 (a1 + 2) ∧ bt a0 (a1 + 2) ≤ 191) ∨ ((a0.size : Int) ≤ a1 + 2 ∨ bt a0 (a1 + 2) < 128 ∨ 191 < bt a0 (a1 + 2)) := by omega
    have q3 : (a1 + 3 < (a0.size : Int) ∧ 128 ≤ bt a0 (a1 + 3) ∧ bt a0 (a1 + 3) ≤ 191) ∨ ((a0.size : Int) ≤ a1 + 3 ∨ bt a0 (a1 + 3) < 128 ∨ 191 < bt a0 (a1 + 3)) := by omega
    have cls : bt a0 a1 < 128 ∨ (128 ≤ bt a0 a1 ∧ bt a0 a1 < 194 ∨ 245 ≤ bt a0 a1) ∨ (194 ≤ bt a0 a1 ∧ bt a0 a1 < 224) ∨ bt a0 a1 = 224 ∨ (225 ≤ bt a0 a1 ∧ bt a0 a1 < 237) ∨ bt a0 a1 = 237 ∨ (238 ≤ bt a0 a1 ∧ bt a0 a1 < 240) ∨ bt a0 a1 = 240 ∨ (241 ≤ bt a0 a1 ∧ bt a0 a1 < 244) ∨ bt a0 a1 = 244 := by omega
    show SignSaid a0 a1 w
    rcases cls with c | c | c | c | c | c | c | c | c | c
    · exact sign_asc0 a0 a1 w h0 hi hs hr c
    · rcases q2 with b | b
      · rcases q3 with d | d
        · exact sign_bad2 a0 a1 w h0 hi hs hr c b d
        · exact sign_bad1 a0 a1 w h0 hi hs hr c b d
      · exact sign_bad0 a0 a1 w h0 hi hs hr c b
    · rcases q1 128 191 with e | e
      · exact sign_two0 a0 a1 w h0 hi hs hr c e
      · rcases q2 with b | b
        · rcases q3 with d | d
          · exact sign_two3 a0 a1 w h0 hi hs hr c e b d
          · exact sign_two2 a0 a1 w h0 hi hs hr c e b d
        · exact sign_two1 a0 a1 w h0 hi hs hr c e b
    · rcases q2 with b | b
      · rcases q1 160 191 with e | e
        · exact sign_e01 a0 a1 w h0 hi hs hr c b e
        · rcases q3 with d | d
          · exact sign_e03 a0 a1 w h0 hi hs hr c b e d
          · exact sign_e02 a0 a1 w h0 hi hs hr c b e d
      · exact sign_e00 a0 a1 w h0 hi hs hr c b
    · rcases q2 with b | b
      · rcases q1 128 191 with e | e
        · exact sign_e11 a0 a1 w h0 hi hs hr c b e
        · rcases q3 with d | d
          · exact sign_e13 a0 a1 w h0 hi hs hr c b e d
          · exact sign_e12 a0 a1 w h0 hi hs hr c b e d
      · exact sign_e10 a0 a1 w h0 hi hs hr c b
    · rcases q2 with b | b
      · rcases q1 128 159 with e | e
        · exact sign_ed1 a0 a1 w h0 hi hs hr c b e
        · rcases q3 with d | d
          · exact sign_ed3 a0 a1 w h0 hi hs hr c b e d
          · exact sign_ed2 a0 a1 w h0 hi hs hr c b e d
      · exact sign_ed0 a0 a1 w h0 hi hs hr c b
    · rcases q2 with b | b
      · rcases q1 128 191 with e | e
        · exact sign_ee1 a0 a1 w h0 hi hs hr c b e
        · rcases q3 with d | d
          · exact sign_ee3 a0 a1 w h0 hi hs hr c b e d
          · exact sign_ee2 a0 a1 w h0 hi hs hr c b e d
      · exact sign_ee0 a0 a1 w h0 hi hs hr c b
    · rcases q2 with b | b
      · rcases q3 with d | d
        · rcases q1 144 191 with e | e
          · exact sign_f02 a0 a1 w h0 hi hs hr c b d e
          · exact sign_f03 a0 a1 w h0 hi hs hr c b d e
        · exact sign_f01 a0 a1 w h0 hi hs hr c b d
      · exact sign_f00 a0 a1 w h0 hi hs hr c b
    · rcases q2 with b | b
      · rcases q3 with d | d
        · rcases q1 128 191 with e | e
          · exact sign_f12 a0 a1 w h0 hi hs hr c b d e
          · exact sign_f13 a0 a1 w h0 hi hs hr c b d e
        · exact sign_f11 a0 a1 w h0 hi hs hr c b d
      · exact sign_f10 a0 a1 w h0 hi hs hr c b
    · rcases q2 with b | b
      · rcases q3 with d | d
        · rcases q1 128 143 with e | e
          · exact sign_f42 a0 a1 w h0 hi hs hr c b d e
          · exact sign_f43 a0 a1 w h0 hi hs hr c b d e
        · exact sign_f41 a0 a1 w h0 hi hs hr c b d
      · exact sign_f40 a0 a1 w h0 hi hs hr c b
  · cases h
def bonsairef04_First.l0 : Nat → ByteArray → Int → Option (Int × Bool)
  | 0, _, _ => none
  | k + 1, x0, x4 => if x4 < (x0.size : Int) then ((bonsairef04_sign.f x0 x4).bind fun t254 => (if t254 = 0 then (some (x4, true)) else (bonsairef04_First.l0 k x0 (wrap64 (x4 + t254))))) else (some (0, false))
def bonsairef04_First.f (k : Nat) (a0 : ByteArray) : Option (Int × Bool) := bonsairef04_First.l0 k a0 0
set_option maxHeartbeats 8000000 in
set_option maxRecDepth 100000 in
theorem bonsairef04_First.calls (k : Nat) (a0 : ByteArray) (r1 : Int) (r2 : Bool) (w : World) (h : bonsairef04_First.f k a0 = some (r1, r2)) :
    Calls Try.prog 88 #[.string a0] w fun e w' => e = .returned (.tuple #[.int .i64 r1, .bool r2]) ∧ Drawn0 w w' := by
  have H : (bonsairef04_First.l0 k a0 0) = some (r1, r2) := h
  clear h
  have H' := Aside0.mk H
  clear H
  go_enter Try.func88, Try.ntmps88
  go_wp2
  go_loopg [4] k (fun kq v4 w' => ∃ (x4_1 : Int), v4 = .int .i64 x4_1 ∧ Aside0 (bonsairef04_First.l0 kq a0 x4_1 = some (r1, r2)) ∧ Aside0 (kq ≤ k) ∧ Drawn0 w w')
  case atStart => exact ⟨(0), (by first | rfl | (simp; done) | (simp [*]; done)), H', ⟨Nat.le_refl _⟩, by repeat (first | exact Drawn0.refl _ | apply Drawn0.step)⟩
  case round =>
    clear H'
    obtain ⟨x4_1, rfl, HA, HK1, ⟨m1, rfl⟩⟩ := hrel
    cases gk with
    | zero => exact absurd HA.out (by simp [bonsairef04_First.l0])
    | succ k1 =>
      have H := HA.out
      clear HA
      simp only [bonsairef04_First.l0] at H
      by_cases c2 : x4_1 < (a0.size : Int)
      · rw [if_pos c2] at H
        have c2b0 : decide (x4_1 < (a0.size : Int)) = true := decide_eq_true c2
        clear c2
        replace H := Option.bind_eq_some_iff.mp H
        obtain ⟨t254, A30, H⟩ := H
        replace H : (if t254 = 0 then (some (x4_1, true)) else (bonsairef04_First.l0 k1 a0 (wrap64 (x4_1 + t254)))) = some (r1, r2) := H
        have A3 := Aside0.mk A30
        clear A30
        by_cases c4 : t254 = 0
        · rw [if_pos c4] at H
          have c4b0 : (t254 == 0) = true := beq_iff_eq.mpr c4
          have c4b1 : (t254 != 0) = false := bne_eq_false_iff_eq.mpr c4
          clear c4
          simp only [Option.some.injEq, Prod.mk.injEq] at H
          obtain ⟨rfl, rfl⟩ := H
          go_wp2_with (first | ((with_reducible refine gate_callee (f := 93) rfl ?_); refine goesL_ (some 12) rfl rfl Try.func93 (by kernel_rfl) rfl #[.string a0, .int .i64 x4_1] rfl (by (try simp only [List.map_toArray, List.map_cons, List.map_nil]); first | done | rfl | (simp only [List.length_drop, List.length_take]; rfl)) ?_; (with_reducible refine (bonsairef04_sign.calls a0 x4_1 t254 _ A3.out).mono ?_); rintro e w' ⟨rfl, ⟨nd, rfl⟩⟩; refine ⟨_, rfl, ?_⟩))
          go_ret2
          exact ⟨by first | rfl | (simp; done) | (simp [*]; done), by repeat (first | exact Drawn0.refl _ | apply Drawn0.step)⟩
        · rw [if_neg c4] at H
          have c4b0 : (t254 == 0) = false := beq_eq_false_iff_ne.mpr c4
          have c4b1 : (t254 != 0) = true := bne_iff_ne.mpr c4
          have H' := Aside0.mk H
          clear H
          go_wp2_with (first | ((with_reducible refine gate_callee (f := 93) rfl ?_); refine goesL_ (some 12) rfl rfl Try.func93 (by kernel_rfl) rfl #[.string a0, .int .i64 x4_1] rfl (by (try simp only [List.map_toArray, List.map_cons, List.map_nil]); first | done | rfl | (simp only [List.length_drop, List.length_take]; rfl)) ?_; (with_reducible refine (bonsairef04_sign.calls a0 x4_1 t254 _ A3.out).mono ?_); rintro e w' ⟨rfl, ⟨nd, rfl⟩⟩; refine ⟨_, rfl, ?_⟩))
          go_roundg k1
          case measure => have := HK1.out; omega
          case rel => exact ⟨(wrap64 (x4_1 + t254)), (by first | rfl | (simp; done) | (simp [*]; done)), H', ⟨by have := HK1.out; omega⟩, by repeat (first | exact Drawn0.refl _ | apply Drawn0.step)⟩
      · rw [if_neg c2] at H
        have c2b0 : decide (x4_1 < (a0.size : Int)) = false := decide_eq_false c2
        clear c2
        simp only [Option.some.injEq, Prod.mk.injEq] at H
        obtain ⟨rfl, rfl⟩ := H
        go_wp2
        go_ret2
        exact ⟨by first | rfl | (simp; done) | (simp [*]; done), by repeat (first | exact Drawn0.refl _ | apply Drawn0.step)⟩
def bonsairef04_Valid.f (k : Nat) (a0 : ByteArray) : Option (Bool) := (bonsairef04_First.f k a0).bind fun bt255 => (some (!bt255.2))
set_option maxHeartbeats 8000000 in
set_option maxRecDepth 100000 in
theorem bonsairef04_Valid.calls (k : Nat) (a0 : ByteArray) (r : Bool) (w : World) (h : bonsairef04_Valid.f k a0 = some r) :
    Calls Try.prog 71 #[.string a0] w fun e w' => e = .returned (.bool r) ∧ Drawn0 w w' := by
  have H : ((bonsairef04_First.f k a0).bind fun bt255 => (some (!bt255.2))) = some r := h
  clear h
  replace H := Option.bind_eq_some_iff.mp H
  obtain ⟨⟨t255, t256⟩, A20, H⟩ := H
  replace H : (some (!t256)) = some r := H
  have A2 := Aside0.mk A20
  clear A20
  obtain rfl := Option.some.inj H
  go_enter Try.func71, Try.ntmps71
  go_wp2_with (first | ((with_reducible refine gate_callee (f := 88) rfl ?_); refine goesL_ (some 7) rfl rfl Try.func88 (by kernel_rfl) rfl #[.string a0] rfl (by (try simp only [List.map_toArray, List.map_cons, List.map_nil]); first | done | rfl | (simp only [List.length_drop, List.length_take]; rfl)) ?_; (with_reducible refine (bonsairef04_First.calls k a0 t255 t256 _ A2.out).mono ?_); rintro e w' ⟨rfl, ⟨nd, rfl⟩⟩; refine ⟨_, rfl, ?_⟩))
  go_ret
  exact ⟨by first | rfl | (simp; done) | (simp [*]; done), by repeat (first | exact Drawn0.refl _ | apply Drawn0.step)⟩
end Go.Proofs.Ytfgnjndfnijjoaa.Print
end
section
namespace Go.Proofs.Ytfgnjndfnijjoaa.Print
open Go.RowKit Go.Proofs.YtfgnjndfnijjoaaW.PrintWords Go.Proofs.YtfgnjndfnijjoaaW.PrintLast Go.Proofs.YtfgnjndfnijjoaaW.PrintMore
attribute [local go_sem] max2_int min2_int max_two min_two max_three min_three max_four min_four
attribute [local go_sem] run_store_float
set_option linter.unusedVariables false
set_option linter.unusedSimpArgs false
def bonsairef12_One.f (k : Nat) (a0_0 : Int) (a0_1 : Int) (a0_2 : ByteArray) (a0_3 : Int) : Option (Bool) := if a0_0 ≥ 1 then (if a0_0 ≤ 2147483647 then (if a0_1 ≥ 0 then (if a0_1 ≤ 2147483647 then (if (a0_2.size : Int) ≤ 64 then ((bonsairef04_Valid.f k a0_2).bind fun t258 => (some t258)) else (some false)) else (some false)) else (some false)) else (some false)) else (some false)
set_option maxHeartbeats 8000000 in
set_option maxRecDepth 100000 in
theorem bonsairef12_One.calls (k : Nat) (a0_0 : Int) (a0_1 : Int) (a0_2 : ByteArray) (bv0_3 : Nat) (a0_3 : Int) (r : Bool) (w : World) (bq0_3 : FB bv0_3 a0_3) (h : bonsairef12_One.f k a0_0 a0_1 a0_2 a0_3 = some r) :
    Calls Try.prog 73 #[.agg #[.int .i64 a0_0, .int .i64 a0_1, .string a0_2, .float .f64 bv0_3]] w fun e w' => e = .returned (.bool r) ∧ Below w.heap.size w w' := by
  have hu96 := Try.underlying96
  have HB := Aside0.mk (Below.refl w.heap.size w)
  have H : (if a0_0 ≥ 1 then (if a0_0 ≤ 2147483647 then (if a0_1 ≥ 0 then (if a0_1 ≤ 2147483647 then (if (a0_2.size : Int) ≤ 64 then ((bonsairef04_Valid.f k a0_2).bind fun t258 => (some t258)) else (some false)) else (some false)) else (some false)) else (some false)) else (some false)) = some r := h
  clear h
  by_cases c2 : a0_0 ≥ 1
  · rw [if_pos c2] at H
    have c2b0 : decide (1 ≤ a0_0) = true := decide_eq_true c2
    clear c2
    by_cases c3 : a0_0 ≤ 2147483647
    · rw [if_pos c3] at H
      have c3b0 : decide (a0_0 ≤ 2147483647) = true := decide_eq_true c3
      clear c3
      by_cases c4 : a0_1 ≥ 0
      · rw [if_pos c4] at H
        have c4b0 : decide (0 ≤ a0_1) = true := decide_eq_true c4
        clear c4
        by_cases c5 : a0_1 ≤ 2147483647
        · rw [if_pos c5] at H
          have c5b0 : decide (a0_1 ≤ 2147483647) = true := decide_eq_true c5
          clear c5
          by_cases c6 : (a0_2.size : Int) ≤ 64
          · rw [if_pos c6] at H
            have c6b0 : decide ((a0_2.size : Int) ≤ 64) = true := decide_eq_true c6
            have c6b1 : decide (a0_2.size ≤ 64) = true := decide_eq_true (by omega)
            clear c6
            replace H := Option.bind_eq_some_iff.mp H
            obtain ⟨t258, A70, H⟩ := H
            replace H : (some t258) = some r := H
            have A7 := Aside0.mk A70
            clear A70
            obtain rfl := Option.some.inj H
            go_enter Try.func73, Try.ntmps73
            go_wp2_with (first | ((with_reducible refine gate_dst (N := 1) rfl ?_); (try (refine gate_guard (by rfl) ?_; dsimp only)); refine box_event ?hg (N := 1) ?hd (cs := #[.int .i64 a0_0, .int .i64 a0_1, .string a0_2, .float .f64 bv0_3]) (t := 96) ?hr ?_; (case hd => rfl); (case hg => rfl); (case hr => first | (go_simp; done) | (go_simp; rfl)); intro gb257 hg w8 hbox hb; have n0_ := Aside0.mk (below_step (by repeat (first | (with_reducible first | exact HB.out | apply below_alloc | apply pw_below_drewN | apply below_drew1) | exact HB.out)) hb); have n1_ := Aside0.mk (hbox); have n2_ := Aside0.mk ((by rw [hg]; exact (below_size (by repeat (first | (with_reducible first | exact HB.out | apply below_alloc | apply pw_below_drewN | apply below_drew1) | exact HB.out))) : w.heap.size ≤ gb257)); have n3_ := Aside0.mk ((by rw [hg]; exact (below_size (by repeat (first | (with_reducible first | exact HB.out | apply below_alloc | apply pw_below_drewN | apply below_drew1) | exact HB.out))) : w.heap.size ≤ gb257)); clear HB; have HB := n0_; have BK257 := n1_; have GW257 := n2_; have GE257 := n3_; clear n0_ n1_ n2_ n3_; clear hb hbox hg; have hcz9_0 : w8.cell? ⟨gb257, 0, none⟩ = some (.int .i64 a0_0) := (blk_cell BK257.out 0).trans rfl; have hcz9_1 : w8.cell? ⟨gb257, 1, none⟩ = some (.int .i64 a0_1) := (blk_cell BK257.out 1).trans rfl; have hcz9_2 : w8.cell? ⟨gb257, 2, none⟩ = some (.string a0_2) := (blk_cell BK257.out 2).trans rfl; have hcz9_3 : w8.cell? ⟨gb257, 3, none⟩ = some (.float .f64 bv0_3) := (blk_cell BK257.out 3).trans rfl; have hfz9_0 := blk_frozen BK257.out 0; have hfz9_1 := blk_frozen BK257.out 1; have hfz9_2 := blk_frozen BK257.out 2; have hfz9_3 := blk_frozen BK257.out 3) | (go_at_call 71; (with_reducible refine (bonsairef04_Valid.calls k a0_2 t258 _ A7.out).mono ?_); rintro e w' ⟨rfl, ⟨nd, rfl⟩⟩))
            go_ret
            exact ⟨by first | rfl | (simp [errW_none, errW_some] <;> rfl) | (simp [*, errW_none, errW_some] <;> rfl), by repeat (first | (with_reducible first | exact HB.out | apply below_alloc | apply pw_below_drewN | apply below_drew1 | refine below_set ?_ GE257.out) | exact HB.out)⟩
          · rw [if_neg c6] at H
            have c6b0 : decide ((a0_2.size : Int) ≤ 64) = false := decide_eq_false c6
            have c6b1 : decide (a0_2.size ≤ 64) = false := decide_eq_false (by omega)
            clear c6
            obtain rfl := Option.some.inj H
            go_enter Try.func73, Try.ntmps73
            go_wp2_with (first | ((with_reducible refine gate_dst (N := 1) rfl ?_); (try (refine gate_guard (by rfl) ?_; dsimp only)); refine box_event ?hg (N := 1) ?hd (cs := #[.int .i64 a0_0, .int .i64 a0_1, .string a0_2, .float .f64 bv0_3]) (t := 96) ?hr ?_; (case hd => rfl); (case hg => rfl); (case hr => first | (go_simp; done) | (go_simp; rfl)); intro gb257 hg w10 hbox hb; have n0_ := Aside0.mk (below_step (by repeat (first | (with_reducible first | exact HB.out | apply below_alloc | apply pw_below_drewN | apply below_drew1) | exact HB.out)) hb); have n1_ := Aside0.mk (hbox); have n2_ := Aside0.mk ((by rw [hg]; exact (below_size (by repeat (first | (with_reducible first | exact HB.out | apply below_alloc | apply pw_below_drewN | apply below_drew1) | exact HB.out))) : w.heap.size ≤ gb257)); have n3_ := Aside0.mk ((by rw [hg]; exact (below_size (by repeat (first | (with_reducible first | exact HB.out | apply below_alloc | apply pw_below_drewN | apply below_drew1) | exact HB.out))) : w.heap.size ≤ gb257)); clear HB; have HB := n0_; have BK257 := n1_; have GW257 := n2_; have GE257 := n3_; clear n0_ n1_ n2_ n3_; clear hb hbox hg; have hcz11_0 : w10.cell? ⟨gb257, 0, none⟩ = some (.int .i64 a0_0) := (blk_cell BK257.out 0).trans rfl; have hcz11_1 : w10.cell? ⟨gb257, 1, none⟩ = some (.int .i64 a0_1) := (blk_cell BK257.out 1).trans rfl; have hcz11_2 : w10.cell? ⟨gb257, 2, none⟩ = some (.string a0_2) := (blk_cell BK257.out 2).trans rfl; have hcz11_3 : w10.cell? ⟨gb257, 3, none⟩ = some (.float .f64 bv0_3) := (blk_cell BK257.out 3).trans rfl; have hfz11_0 := blk_frozen BK257.out 0; have hfz11_1 := blk_frozen BK257.out 1; have hfz11_2 := blk_frozen BK257.out 2; have hfz11_3 := blk_frozen BK257.out 3))
            go_ret
            exact ⟨by first | rfl | (simp [errW_none, errW_some] <;> rfl) | (simp [*, errW_none, errW_some] <;> rfl), by repeat (first | (with_reducible first | exact HB.out | apply below_alloc | apply pw_below_drewN | apply below_drew1 | refine below_set ?_ GE257.out) | exact HB.out)⟩
        · rw [if_neg c5] at H
          have c5b0 : decide (a0_1 ≤ 2147483647) = false := decide_eq_false c5
          clear c5
          obtain rfl := Option.some.inj H
          go_enter Try.func73, Try.ntmps73
          go_wp2_with (first | ((with_reducible refine gate_dst (N := 1) rfl ?_); (try (refine gate_guard (by rfl) ?_; dsimp only)); refine box_event ?hg (N := 1) ?hd (cs := #[.int .i64 a0_0, .int .i64 a0_1, .string a0_2, .float .f64 bv0_3]) (t := 96) ?hr ?_; (case hd => rfl); (case hg => rfl); (case hr => first | (go_simp; done) | (go_simp; rfl)); intro gb257 hg w12 hbox hb; have n0_ := Aside0.mk (below_step (by repeat (first | (with_reducible first | exact HB.out | apply below_alloc | apply pw_below_drewN | apply below_drew1) | exact HB.out)) hb); have n1_ := Aside0.mk (hbox); have n2_ := Aside0.mk ((by rw [hg]; exact (below_size (by repeat (first | (with_reducible first | exact HB.out | apply below_alloc | apply pw_below_drewN | apply below_drew1) | exact HB.out))) : w.heap.size ≤ gb257)); have n3_ := Aside0.mk ((by rw [hg]; exact (below_size (by repeat (first | (with_reducible first | exact HB.out | apply below_alloc | apply pw_below_drewN | apply below_drew1) | exact HB.out))) : w.heap.size ≤ gb257)); clear HB; have HB := n0_; have BK257 := n1_; have GW257 := n2_; have GE257 := n3_; clear n0_ n1_ n2_ n3_; clear hb hbox hg; have hcz13_0 : w12.cell? ⟨gb257, 0, none⟩ = some (.int .i64 a0_0) := (blk_cell BK257.out 0).trans rfl; have hcz13_1 : w12.cell? ⟨gb257, 1, none⟩ = some (.int .i64 a0_1) := (blk_cell BK257.out 1).trans rfl; have hcz13_2 : w12.cell? ⟨gb257, 2, none⟩ = some (.string a0_2) := (blk_cell BK257.out 2).trans rfl; have hcz13_3 : w12.cell? ⟨gb257, 3, none⟩ = some (.float .f64 bv0_3) := (blk_cell BK257.out 3).trans rfl; have hfz13_0 := blk_frozen BK257.out 0; have hfz13_1 := blk_frozen BK257.out 1; have hfz13_2 := blk_frozen BK257.out 2; have hfz13_3 := blk_frozen BK257.out 3))
          go_ret
          exact ⟨by first | rfl | (simp [errW_none, errW_some] <;> rfl) | (simp [*, errW_none, errW_some] <;> rfl), by repeat (first | (with_reducible first | exact HB.out | apply below_alloc | apply pw_below_drewN | apply below_drew1 | refine below_set ?_ GE257.out) | exact HB.out)⟩
      · rw [if_neg c4] at H
        have c4b0 : decide (0 ≤ a0_1) = false := decide_eq_false c4
        clear c4
        obtain rfl := Option.some.inj H
        go_enter Try.func73, Try.ntmps73
        go_wp2_with (first | ((with_reducible refine gate_dst (N := 1) rfl ?_); (try (refine gate_guard (by rfl) ?_; dsimp only)); refine box_event ?hg (N := 1) ?hd (cs := #[.int .i64 a0_0, .int .i64 a0_1, .string a0_2, .float .f64 bv0_3]) (t := 96) ?hr ?_; (case hd => rfl); (case hg => rfl); (case hr => first | (go_simp; done) | (go_simp; rfl)); intro gb257 hg w14 hbox hb; have n0_ := Aside0.mk (below_step (by repeat (first | (with_reducible first | exact HB.out | apply below_alloc | apply pw_below_drewN | apply below_drew1) | exact HB.out)) hb); have n1_ := Aside0.mk (hbox); have n2_ := Aside0.mk ((by rw [hg]; exact (below_size (by repeat (first | (with_reducible first | exact HB.out | apply below_alloc | apply pw_below_drewN | apply below_drew1) | exact HB.out))) : w.heap.size ≤ gb257)); have n3_ := Aside0.mk ((by rw [hg]; exact (below_size (by repeat (first | (with_reducible first | exact HB.out | apply below_alloc | apply pw_below_drewN | apply below_drew1) | exact HB.out))) : w.heap.size ≤ gb257)); clear HB; have HB := n0_; have BK257 := n1_; have GW257 := n2_; have GE257 := n3_; clear n0_ n1_ n2_ n3_; clear hb hbox hg; have hcz15_0 : w14.cell? ⟨gb257, 0, none⟩ = some (.int .i64 a0_0) := (blk_cell BK257.out 0).trans rfl; have hcz15_1 : w14.cell? ⟨gb257, 1, none⟩ = some (.int .i64 a0_1) := (blk_cell BK257.out 1).trans rfl; have hcz15_2 : w14.cell? ⟨gb257, 2, none⟩ = some (.string a0_2) := (blk_cell BK257.out 2).trans rfl; have hcz15_3 : w14.cell? ⟨gb257, 3, none⟩ = some (.float .f64 bv0_3) := (blk_cell BK257.out 3).trans rfl; have hfz15_0 := blk_frozen BK257.out 0; have hfz15_1 := blk_frozen BK257.out 1; have hfz15_2 := blk_frozen BK257.out 2; have hfz15_3 := blk_frozen BK257.out 3))
        go_ret
        exact ⟨by first | rfl | (simp [errW_none, errW_some] <;> rfl) | (simp [*, errW_none, errW_some] <;> rfl), by repeat (first | (with_reducible first | exact HB.out | apply below_alloc | apply pw_below_drewN | apply below_drew1 | refine below_set ?_ GE257.out) | exact HB.out)⟩
    · rw [if_neg c3] at H
      have c3b0 : decide (a0_0 ≤ 2147483647) = false := decide_eq_false c3
      clear c3
      obtain rfl := Option.some.inj H
      go_enter Try.func73, Try.ntmps73
      go_wp2_with (first | ((with_reducible refine gate_dst (N := 1) rfl ?_); (try (refine gate_guard (by rfl) ?_; dsimp only)); refine box_event ?hg (N := 1) ?hd (cs := #[.int .i64 a0_0, .int .i64 a0_1, .string a0_2, .float .f64 bv0_3]) (t := 96) ?hr ?_; (case hd => rfl); (case hg => rfl); (case hr => first | (go_simp; done) | (go_simp; rfl)); intro gb257 hg w16 hbox hb; have n0_ := Aside0.mk (below_step (by repeat (first | (with_reducible first | exact HB.out | apply below_alloc | apply pw_below_drewN | apply below_drew1) | exact HB.out)) hb); have n1_ := Aside0.mk (hbox); have n2_ := Aside0.mk ((by rw [hg]; exact (below_size (by repeat (first | (with_reducible first | exact HB.out | apply below_alloc | apply pw_below_drewN | apply below_drew1) | exact HB.out))) : w.heap.size ≤ gb257)); have n3_ := Aside0.mk ((by rw [hg]; exact (below_size (by repeat (first | (with_reducible first | exact HB.out | apply below_alloc | apply pw_below_drewN | apply below_drew1) | exact HB.out))) : w.heap.size ≤ gb257)); clear HB; have HB := n0_; have BK257 := n1_; have GW257 := n2_; have GE257 := n3_; clear n0_ n1_ n2_ n3_; clear hb hbox hg; have hcz17_0 : w16.cell? ⟨gb257, 0, none⟩ = some (.int .i64 a0_0) := (blk_cell BK257.out 0).trans rfl; have hcz17_1 : w16.cell? ⟨gb257, 1, none⟩ = some (.int .i64 a0_1) := (blk_cell BK257.out 1).trans rfl; have hcz17_2 : w16.cell? ⟨gb257, 2, none⟩ = some (.string a0_2) := (blk_cell BK257.out 2).trans rfl; have hcz17_3 : w16.cell? ⟨gb257, 3, none⟩ = some (.float .f64 bv0_3) := (blk_cell BK257.out 3).trans rfl; have hfz17_0 := blk_frozen BK257.out 0; have hfz17_1 := blk_frozen BK257.out 1; have hfz17_2 := blk_frozen BK257.out 2; have hfz17_3 := blk_frozen BK257.out 3))
      go_ret
      exact ⟨by first | rfl | (simp [errW_none, errW_some] <;> rfl) | (simp [*, errW_none, errW_some] <;> rfl), by repeat (first | (with_reducible first | exact HB.out | apply below_alloc | apply pw_below_drewN | apply below_drew1 | refine below_set ?_ GE257.out) | exact HB.out)⟩
  · rw [if_neg c2] at H
    have c2b0 : decide (1 ≤ a0_0) = false := decide_eq_false c2
    clear c2
    obtain rfl := Option.some.inj H
    go_enter Try.func73, Try.ntmps73
    go_wp2_with (first | ((with_reducible refine gate_dst (N := 1) rfl ?_); (try (refine gate_guard (by rfl) ?_; dsimp only)); refine box_event ?hg (N := 1) ?hd (cs := #[.int .i64 a0_0, .int .i64 a0_1, .string a0_2, .float .f64 bv0_3]) (t := 96) ?hr ?_; (case hd => rfl); (case hg => rfl); (case hr => first | (go_simp; done) | (go_simp; rfl)); intro gb257 hg w18 hbox hb; have n0_ := Aside0.mk (below_step (by repeat (first | (with_reducible first | exact HB.out | apply below_alloc | apply pw_below_drewN | apply below_drew1) | exact HB.out)) hb); have n1_ := Aside0.mk (hbox); have n2_ := Aside0.mk ((by rw [hg]; exact (below_size (by repeat (first | (with_reducible first | exact HB.out | apply below_alloc | apply pw_below_drewN | apply below_drew1) | exact HB.out))) : w.heap.size ≤ gb257)); have n3_ := Aside0.mk ((by rw [hg]; exact (below_size (by repeat (first | (with_reducible first | exact HB.out | apply below_alloc | apply pw_below_drewN | apply below_drew1) | exact HB.out))) : w.heap.size ≤ gb257)); clear HB; have HB := n0_; have BK257 := n1_; have GW257 := n2_; have GE257 := n3_; clear n0_ n1_ n2_ n3_; clear hb hbox hg; have hcz19_0 : w18.cell? ⟨gb257, 0, none⟩ = some (.int .i64 a0_0) := (blk_cell BK257.out 0).trans rfl; have hcz19_1 : w18.cell? ⟨gb257, 1, none⟩ = some (.int .i64 a0_1) := (blk_cell BK257.out 1).trans rfl; have hcz19_2 : w18.cell? ⟨gb257, 2, none⟩ = some (.string a0_2) := (blk_cell BK257.out 2).trans rfl; have hcz19_3 : w18.cell? ⟨gb257, 3, none⟩ = some (.float .f64 bv0_3) := (blk_cell BK257.out 3).trans rfl; have hfz19_0 := blk_frozen BK257.out 0; have hfz19_1 := blk_frozen BK257.out 1; have hfz19_2 := blk_frozen BK257.out 2; have hfz19_3 := blk_frozen BK257.out 3))
    go_ret
    exact ⟨by first | rfl | (simp [errW_none, errW_some] <;> rfl) | (simp [*, errW_none, errW_some] <;> rfl), by repeat (first | (with_reducible first | exact HB.out | apply below_alloc | apply pw_below_drewN | apply below_drew1 | refine below_set ?_ GE257.out) | exact HB.out)⟩
def bonsairef13_One.f (k : Nat) (a0_0 : Int) (a0_1 : Int) (a0_2 : Int) (a0_3 : Int) (a0_4 : ByteArray) (a0_5 : Int) : Option (Bool) := (bonsairef13_Time.f a0_0 a0_1).bind fun t260 => (if t260 = true then ((bonsairef13_Row.f a0_0 a0_1 a0_2 a0_3 a0_4 a0_5).bind fun bt261 => ((bonsairef12_One.f k bt261.1 bt261.2.1 bt261.2.2.1 bt261.2.2.2).bind fun t266 => (some t266))) else (some false))
set_option maxHeartbeats 8000000 in
set_option maxRecDepth 100000 in
theorem bonsairef13_One.calls (k : Nat) (a0_0 : Int) (a0_1 : Int) (a0_2 : Int) (a0_3 : Int) (a0_4 : ByteArray) (bv0_5 : Nat) (a0_5 : Int) (r : Bool) (w : World) (bq0_5 : FB bv0_5 a0_5) (h : bonsairef13_One.f k a0_0 a0_1 a0_2 a0_3 a0_4 a0_5 = some r) :
    Calls Try.prog 41 #[.agg #[.int .i64 a0_0, .int .i64 a0_1, .int .i64 a0_2, .int .i64 a0_3, .string a0_4, .float .f64 bv0_5]] w fun e w' => e = .returned (.bool r) ∧ Below w.heap.size w w' := by
  have hu30 := Try.underlying30
  have hu27 := Try.underlying27
  have HB := Aside0.mk (Below.refl w.heap.size w)
  have H : ((bonsairef13_Time.f a0_0 a0_1).bind fun t260 => (if t260 = true then ((bonsairef13_Row.f a0_0 a0_1 a0_2 a0_3 a0_4 a0_5).bind fun bt261 => ((bonsairef12_One.f k bt261.1 bt261.2.1 bt261.2.2.1 bt261.2.2.2).bind fun t266 => (some t266))) else (some false))) = some r := h
  clear h
  replace H := Option.bind_eq_some_iff.mp H
  obtain ⟨t260, A20, H⟩ := H
  replace H : (if t260 = true then ((bonsairef13_Row.f a0_0 a0_1 a0_2 a0_3 a0_4 a0_5).bind fun bt261 => ((bonsairef12_One.f k bt261.1 bt261.2.1 bt261.2.2.1 bt261.2.2.2).bind fun t266 => (some t266))) else (some false)) = some r := H
  have A2 := Aside0.mk A20
  clear A20
  by_cases c3 : t260 = true
  · subst c3
    have H1 : ((bonsairef13_Row.f a0_0 a0_1 a0_2 a0_3 a0_4 a0_5).bind fun bt261 => ((bonsairef12_One.f k bt261.1 bt261.2.1 bt261.2.2.1 bt261.2.2.2).bind fun t266 => (some t266))) = some r := by rw [if_pos rfl] at H; exact H
    clear H
    have H := H1
    clear H1
    replace H := Option.bind_eq_some_iff.mp H
    obtain ⟨⟨t261, t262, t263, t264⟩, A40, H⟩ := H
    replace H : ((bonsairef12_One.f k t261 t262 t263 t264).bind fun t266 => (some t266)) = some r := H
    have A4 := Aside0.mk A40
    clear A40
    replace H := Option.bind_eq_some_iff.mp H
    obtain ⟨t266, A50, H⟩ := H
    replace H : (some t266) = some r := H
    have A5 := Aside0.mk A50
    clear A50
    obtain rfl := Option.some.inj H
    go_enter Try.func41, Try.ntmps41
    go_wp2_with (first | ((with_reducible refine gate_dst (N := 1) rfl ?_); refine box_event ?hg (N := 1) ?hd (cs := #[.int .i64 a0_0, .int .i64 a0_1, .int .i64 a0_2, .int .i64 a0_3, .string a0_4, .float .f64 bv0_5]) (t := 30) ?hr ?_; (case hd => rfl); (case hg => rfl); (case hr => first | (go_simp; done) | (go_simp; rfl)); intro gb259 hg w6 hbox hb; have n0_ := Aside0.mk (below_step (by repeat (first | (with_reducible first | exact HB.out | apply below_alloc | apply pw_below_drewN | apply below_drew1) | exact HB.out)) hb); have n1_ := Aside0.mk (hbox); have n2_ := Aside0.mk ((by rw [hg]; exact (below_size (by repeat (first | (with_reducible first | exact HB.out | apply below_alloc | apply pw_below_drewN | apply below_drew1) | exact HB.out))) : w.heap.size ≤ gb259)); have n3_ := Aside0.mk ((by rw [hg]; exact (below_size (by repeat (first | (with_reducible first | exact HB.out | apply below_alloc | apply pw_below_drewN | apply below_drew1) | exact HB.out))) : w.heap.size ≤ gb259)); clear HB; have HB := n0_; have BK259 := n1_; have GW259 := n2_; have GE259 := n3_; clear n0_ n1_ n2_ n3_; clear hb hbox hg; have hcz7_0 : w6.cell? ⟨gb259, 0, none⟩ = some (.int .i64 a0_0) := (blk_cell BK259.out 0).trans rfl; have hcz7_1 : w6.cell? ⟨gb259, 1, none⟩ = some (.int .i64 a0_1) := (blk_cell BK259.out 1).trans rfl; have hcz7_2 : w6.cell? ⟨gb259, 2, none⟩ = some (.int .i64 a0_2) := (blk_cell BK259.out 2).trans rfl; have hcz7_3 : w6.cell? ⟨gb259, 3, none⟩ = some (.int .i64 a0_3) := (blk_cell BK259.out 3).trans rfl; have hcz7_4 : w6.cell? ⟨gb259, 4, none⟩ = some (.string a0_4) := (blk_cell BK259.out 4).trans rfl; have hcz7_5 : w6.cell? ⟨gb259, 5, none⟩ = some (.float .f64 bv0_5) := (blk_cell BK259.out 5).trans rfl; have hfz7_0 := blk_frozen BK259.out 0; have hfz7_1 := blk_frozen BK259.out 1; have hfz7_2 := blk_frozen BK259.out 2; have hfz7_3 := blk_frozen BK259.out 3; have hfz7_4 := blk_frozen BK259.out 4; have hfz7_5 := blk_frozen BK259.out 5) | ((with_reducible refine gate_callee (f := 72) rfl ?_); refine goesL_ (some 5) rfl rfl Try.func72 (by kernel_rfl) rfl #[.agg #[.int .i64 a0_0, .int .i64 a0_1]] rfl (by (try simp only [List.map_toArray, List.map_cons, List.map_nil]); first | done | rfl | (simp only [List.length_drop, List.length_take]; rfl)) ?_; (with_reducible refine (bonsairef13_Time.calls a0_0 a0_1 true _ A2.out).mono ?_); rintro e w8 ⟨rfl, hb⟩; refine ⟨_, rfl, ?_⟩; have n0_ := Aside0.mk (blk_below (g := gb259) (o := .cells #[.int .i64 a0_0, .int .i64 a0_1, .int .i64 a0_2, .int .i64 a0_3, .string a0_4, .float .f64 bv0_5] 30 (0, 0)) (by (with_reducible repeat (first | refine blk_drewN ?_ _ | refine blk_drew ?_ | refine blk_alloc ?_ _)); exact BK259.out) hb); have n1_ := Aside0.mk (below_step (by repeat (first | (with_reducible first | exact HB.out | apply below_alloc | apply pw_below_drewN | apply below_drew1 | refine below_set ?_ GE259.out) | exact HB.out)) hb); clear BK259; clear HB; have BK259 := n0_; have HB := n1_; clear n0_ n1_; (try clear hb); (try clear hb2); (try clear hk); (try clear hi); have hcz9_0 : w8.cell? ⟨gb259, 0, none⟩ = some (.int .i64 a0_0) := (blk_cell BK259.out 0).trans rfl; have hcz9_1 : w8.cell? ⟨gb259, 1, none⟩ = some (.int .i64 a0_1) := (blk_cell BK259.out 1).trans rfl; have hcz9_2 : w8.cell? ⟨gb259, 2, none⟩ = some (.int .i64 a0_2) := (blk_cell BK259.out 2).trans rfl; have hcz9_3 : w8.cell? ⟨gb259, 3, none⟩ = some (.int .i64 a0_3) := (blk_cell BK259.out 3).trans rfl; have hcz9_4 : w8.cell? ⟨gb259, 4, none⟩ = some (.string a0_4) := (blk_cell BK259.out 4).trans rfl; have hcz9_5 : w8.cell? ⟨gb259, 5, none⟩ = some (.float .f64 bv0_5) := (blk_cell BK259.out 5).trans rfl; have hfz9_0 := blk_frozen BK259.out 0; have hfz9_1 := blk_frozen BK259.out 1; have hfz9_2 := blk_frozen BK259.out 2; have hfz9_3 := blk_frozen BK259.out 3; have hfz9_4 := blk_frozen BK259.out 4; have hfz9_5 := blk_frozen BK259.out 5) | (go_at_call 74; (with_reducible refine (bonsairef13_Row.calls a0_0 a0_1 a0_2 a0_3 a0_4 _ a0_5 t261 t262 t263 t264 _ ?side1 A4.out).mono ?_); (case side1 => exact (by first | assumption | exact FB_lit _ _ rfl | exact FB_int _ | simpa using (by assumption))); rintro e w10 ⟨bv265, rfl, bq265, hb⟩; have n0_ := Aside0.mk (blk_below (g := gb259) (o := .cells #[.int .i64 a0_0, .int .i64 a0_1, .int .i64 a0_2, .int .i64 a0_3, .string a0_4, .float .f64 bv0_5] 30 (0, 0)) (by (with_reducible repeat (first | refine blk_drewN ?_ _ | refine blk_drew ?_ | refine blk_alloc ?_ _)); exact BK259.out) hb); have n1_ := Aside0.mk (below_step (by repeat (first | (with_reducible first | exact HB.out | apply below_alloc | apply pw_below_drewN | apply below_drew1 | refine below_set ?_ GE259.out) | exact HB.out)) hb); clear BK259; clear HB; have BK259 := n0_; have HB := n1_; clear n0_ n1_; (try clear hb); (try clear hb2); (try clear hk); (try clear hi)) | (go_at_call 73; (with_reducible refine (bonsairef12_One.calls k t261 t262 t263 _ t264 t266 _ ?side1 A5.out).mono ?_); (case side1 => exact (by first | assumption | exact FB_lit _ _ rfl | exact FB_int _ | simpa using (by assumption))); rintro e w11 ⟨rfl, hb⟩; have n0_ := Aside0.mk (blk_below (g := gb259) (o := .cells #[.int .i64 a0_0, .int .i64 a0_1, .int .i64 a0_2, .int .i64 a0_3, .string a0_4, .float .f64 bv0_5] 30 (0, 0)) (by (with_reducible repeat (first | refine blk_drewN ?_ _ | refine blk_drew ?_ | refine blk_alloc ?_ _)); exact BK259.out) hb); have n1_ := Aside0.mk (below_step (by repeat (first | (with_reducible first | exact HB.out | apply below_alloc | apply pw_below_drewN | apply below_drew1 | refine below_set ?_ GE259.out) | exact HB.out)) hb); clear BK259; clear HB; have BK259 := n0_; have HB := n1_; clear n0_ n1_; (try clear hb); (try clear hb2); (try clear hk); (try clear hi)))
    go_ret
    exact ⟨by first | rfl | (simp [errW_none, errW_some] <;> rfl) | (simp [*, errW_none, errW_some] <;> rfl), by repeat (first | (with_reducible first | exact HB.out | apply below_alloc | apply pw_below_drewN | apply below_drew1 | refine below_set ?_ GE259.out) | exact HB.out)⟩
  · replace c3 := Bool.eq_false_iff.mpr c3
    subst c3
    have H1 : (some false) = some r := by rw [if_neg (show ¬ (false = true) by decide)] at H; exact H
    clear H
    have H := H1
    clear H1
    obtain rfl := Option.some.inj H
    go_enter Try.func41, Try.ntmps41
    go_wp2_with (first | ((with_reducible refine gate_dst (N := 1) rfl ?_); refine box_event ?hg (N := 1) ?hd (cs := #[.int .i64 a0_0, .int .i64 a0_1, .int .i64 a0_2, .int .i64 a0_3, .string a0_4, .float .f64 bv0_5]) (t := 30) ?hr ?_; (case hd => rfl); (case hg => rfl); (case hr => first | (go_simp; done) | (go_simp; rfl)); intro gb259 hg w12 hbox hb; have n0_ := Aside0.mk (below_step (by repeat (first | (with_reducible first | exact HB.out | apply below_alloc | apply pw_below_drewN | apply below_drew1) | exact HB.out)) hb); have n1_ := Aside0.mk (hbox); have n2_ := Aside0.mk ((by rw [hg]; exact (below_size (by repeat (first | (with_reducible first | exact HB.out | apply below_alloc | apply pw_below_drewN | apply below_drew1) | exact HB.out))) : w.heap.size ≤ gb259)); have n3_ := Aside0.mk ((by rw [hg]; exact (below_size (by repeat (first | (with_reducible first | exact HB.out | apply below_alloc | apply pw_below_drewN | apply below_drew1) | exact HB.out))) : w.heap.size ≤ gb259)); clear HB; have HB := n0_; have BK259 := n1_; have GW259 := n2_; have GE259 := n3_; clear n0_ n1_ n2_ n3_; clear hb hbox hg; have hcz13_0 : w12.cell? ⟨gb259, 0, none⟩ = some (.int .i64 a0_0) := (blk_cell BK259.out 0).trans rfl; have hcz13_1 : w12.cell? ⟨gb259, 1, none⟩ = some (.int .i64 a0_1) := (blk_cell BK259.out 1).trans rfl; have hcz13_2 : w12.cell? ⟨gb259, 2, none⟩ = some (.int .i64 a0_2) := (blk_cell BK259.out 2).trans rfl; have hcz13_3 : w12.cell? ⟨gb259, 3, none⟩ = some (.int .i64 a0_3) := (blk_cell BK259.out 3).trans rfl; have hcz13_4 : w12.cell? ⟨gb259, 4, none⟩ = some (.string a0_4) := (blk_cell BK259.out 4).trans rfl; have hcz13_5 : w12.cell? ⟨gb259, 5, none⟩ = some (.float .f64 bv0_5) := (blk_cell BK259.out 5).trans rfl; have hfz13_0 := blk_frozen BK259.out 0; have hfz13_1 := blk_frozen BK259.out 1; have hfz13_2 := blk_frozen BK259.out 2; have hfz13_3 := blk_frozen BK259.out 3; have hfz13_4 := blk_frozen BK259.out 4; have hfz13_5 := blk_frozen BK259.out 5) | ((with_reducible refine gate_callee (f := 72) rfl ?_); refine goesL_ (some 5) rfl rfl Try.func72 (by kernel_rfl) rfl #[.agg #[.int .i64 a0_0, .int .i64 a0_1]] rfl (by (try simp only [List.map_toArray, List.map_cons, List.map_nil]); first | done | rfl | (simp only [List.length_drop, List.length_take]; rfl)) ?_; (with_reducible refine (bonsairef13_Time.calls a0_0 a0_1 false _ A2.out).mono ?_); rintro e w14 ⟨rfl, hb⟩; refine ⟨_, rfl, ?_⟩; have n0_ := Aside0.mk (blk_below (g := gb259) (o := .cells #[.int .i64 a0_0, .int .i64 a0_1, .int .i64 a0_2, .int .i64 a0_3, .string a0_4, .float .f64 bv0_5] 30 (0, 0)) (by (with_reducible repeat (first | refine blk_drewN ?_ _ | refine blk_drew ?_ | refine blk_alloc ?_ _)); exact BK259.out) hb); have n1_ := Aside0.mk (below_step (by repeat (first | (with_reducible first | exact HB.out | apply below_alloc | apply pw_below_drewN | apply below_drew1 | refine below_set ?_ GE259.out) | exact HB.out)) hb); clear BK259; clear HB; have BK259 := n0_; have HB := n1_; clear n0_ n1_; (try clear hb); (try clear hb2); (try clear hk); (try clear hi)))
    go_ret
    exact ⟨by first | rfl | (simp [errW_none, errW_some] <;> rfl) | (simp [*, errW_none, errW_some] <;> rfl), by repeat (first | (with_reducible first | exact HB.out | apply below_alloc | apply pw_below_drewN | apply below_drew1 | refine below_set ?_ GE259.out) | exact HB.out)⟩
def bonsairef02_Before.f (a0_0 : Int) (a0_1 : Int) (a1_0 : Int) (a1_1 : Int) : Option (Bool) := if a0_0 < a1_0 then (some true) else (if a0_0 = a1_0 then (some (decide (a0_1 < a1_1))) else (some false))
set_option maxHeartbeats 8000000 in
set_option maxRecDepth 100000 in
theorem bonsairef02_Before.calls (a0_0 : Int) (a0_1 : Int) (a1_0 : Int) (a1_1 : Int) (r : Bool) (w : World) (h : bonsairef02_Before.f a0_0 a0_1 a1_0 a1_1 = some r) :
    Calls Try.prog 42 #[.agg #[.int .i64 a0_0, .int .i64 a0_1], .agg #[.int .i64 a1_0, .int .i64 a1_1]] w fun e w' => e = .returned (.bool r) ∧ Below w.heap.size w w' := by
  have hu27 := Try.underlying27
  have HB := Aside0.mk (Below.refl w.heap.size w)
  have H : (if a0_0 < a1_0 then (some true) else (if a0_0 = a1_0 then (some (decide (a0_1 < a1_1))) else (some false))) = some r := h
  clear h
  by_cases c3 : a0_0 < a1_0
  · rw [if_pos c3] at H
    have c3b0 : decide (a0_0 < a1_0) = true := decide_eq_true c3
    clear c3
    obtain rfl := Option.some.inj H
    go_enter Try.func42, Try.ntmps42
    go_wp2_with (first | ((with_reducible refine gate_dst (N := 2) rfl ?_); refine box_event ?hg (N := 2) ?hd (cs := #[.int .i64 a0_0, .int .i64 a0_1]) (t := 27) ?hr ?_; (case hd => rfl); (case hg => rfl); (case hr => first | (go_simp; done) | (go_simp; rfl)); intro gb267 hg w4 hbox hb; have n0_ := Aside0.mk (below_step (by repeat (first | (with_reducible first | exact HB.out | apply below_alloc | apply pw_below_drewN | apply below_drew1) | exact HB.out)) hb); have n1_ := Aside0.mk (hbox); have n2_ := Aside0.mk ((by rw [hg]; exact (below_size (by repeat (first | (with_reducible first | exact HB.out | apply below_alloc | apply pw_below_drewN | apply below_drew1) | exact HB.out))) : w.heap.size ≤ gb267)); have n3_ := Aside0.mk ((by rw [hg]; exact (below_size (by repeat (first | (with_reducible first | exact HB.out | apply below_alloc | apply pw_below_drewN | apply below_drew1) | exact HB.out))) : w.heap.size ≤ gb267)); clear HB; have HB := n0_; have BK267 := n1_; have GW267 := n2_; have GE267 := n3_; clear n0_ n1_ n2_ n3_; clear hb hbox hg) | ((with_reducible refine gate_dst (N := 3) rfl ?_); refine box_event ?hg (N := 3) ?hd (cs := #[.int .i64 a1_0, .int .i64 a1_1]) (t := 27) ?hr ?_; (case hd => rfl); (case hg => rfl); (case hr => first | (go_simp; done) | (go_simp; rfl)); intro gb268 hg w5 hbox hb; have n0_ := Aside0.mk (blk_below (g := gb267) (o := .cells #[.int .i64 a0_0, .int .i64 a0_1] 27 (0, 0)) (by (with_reducible repeat (first | refine blk_drewN ?_ _ | refine blk_drew ?_ | refine blk_alloc ?_ _)); exact BK267.out) hb); have n1_ := Aside0.mk (below_step (by repeat (first | (with_reducible first | exact HB.out | apply below_alloc | apply pw_below_drewN | apply below_drew1 | refine below_set ?_ GE267.out) | exact HB.out)) hb); have n2_ := Aside0.mk (hbox); have n3_ := Aside0.mk ((by rw [hg]; exact (below_size (by repeat (first | (with_reducible first | exact HB.out | apply below_alloc | apply pw_below_drewN | apply below_drew1 | refine below_set ?_ GE267.out) | exact HB.out))) : w.heap.size ≤ gb268)); have n4_ := Aside0.mk ((by rw [hg]; exact (below_size (by repeat (first | (with_reducible first | exact HB.out | apply below_alloc | apply pw_below_drewN | apply below_drew1 | refine below_set ?_ GE267.out) | exact HB.out))) : w.heap.size ≤ gb268)); have n5_ := Aside0.mk ((by rw [hg]; exact Nat.ne_of_lt (blk_lt (g := gb267) (o := .cells #[.int .i64 a0_0, .int .i64 a0_1] 27 (0, 0)) (by (with_reducible repeat (first | refine blk_drewN ?_ _ | refine blk_drew ?_ | refine blk_alloc ?_ _)); exact BK267.out)) : gb267 ≠ gb268)); have n6_ := Aside0.mk ((by rw [hg]; exact Nat.ne_of_gt (blk_lt (g := gb267) (o := .cells #[.int .i64 a0_0, .int .i64 a0_1] 27 (0, 0)) (by (with_reducible repeat (first | refine blk_drewN ?_ _ | refine blk_drew ?_ | refine blk_alloc ?_ _)); exact BK267.out)) : gb268 ≠ gb267)); clear BK267; clear HB; have BK267 := n0_; have HB := n1_; have BK268 := n2_; have GW268 := n3_; have GE268 := n4_; have NB267_268 := n5_; have NB268_267 := n6_; clear n0_ n1_ n2_ n3_ n4_ n5_ n6_; clear hb hbox hg; have hnb6 := NB267_268.out; have hnc6 := NB268_267.out; have hcz7_0 : w5.cell? ⟨gb267, 0, none⟩ = some (.int .i64 a0_0) := (blk_cell BK267.out 0).trans rfl; have hcz7_1 : w5.cell? ⟨gb267, 1, none⟩ = some (.int .i64 a0_1) := (blk_cell BK267.out 1).trans rfl; have hfz7_0 := blk_frozen BK267.out 0; have hfz7_1 := blk_frozen BK267.out 1; have hcz8_0 : w5.cell? ⟨gb268, 0, none⟩ = some (.int .i64 a1_0) := (blk_cell BK268.out 0).trans rfl; have hcz8_1 : w5.cell? ⟨gb268, 1, none⟩ = some (.int .i64 a1_1) := (blk_cell BK268.out 1).trans rfl; have hfz8_0 := blk_frozen BK268.out 0; have hfz8_1 := blk_frozen BK268.out 1))
    go_ret
    exact ⟨by first | rfl | (simp [errW_none, errW_some] <;> rfl) | (simp [*, errW_none, errW_some] <;> rfl), by repeat (first | (with_reducible first | exact HB.out | apply below_alloc | apply pw_below_drewN | apply below_drew1 | refine below_set ?_ GE267.out | refine below_set ?_ GE268.out) | exact HB.out)⟩
  · rw [if_neg c3] at H
    have c3b0 : decide (a0_0 < a1_0) = false := decide_eq_false c3
    clear c3
    by_cases c9 : a0_0 = a1_0
    · rw [if_pos c9] at H
      have c9b0 : (a0_0 == a1_0) = true := beq_iff_eq.mpr c9
      have c9b1 : (a0_0 != a1_0) = false := bne_eq_false_iff_eq.mpr c9
      clear c9
      obtain rfl := Option.some.inj H
      go_enter Try.func42, Try.ntmps42
      go_wp2_with (first | ((with_reducible refine gate_dst (N := 2) rfl ?_); refine box_event ?hg (N := 2) ?hd (cs := #[.int .i64 a0_0, .int .i64 a0_1]) (t := 27) ?hr ?_; (case hd => rfl); (case hg => rfl); (case hr => first | (go_simp; done) | (go_simp; rfl)); intro gb267 hg w10 hbox hb; have n0_ := Aside0.mk (below_step (by repeat (first | (with_reducible first | exact HB.out | apply below_alloc | apply pw_below_drewN | apply below_drew1) | exact HB.out)) hb); have n1_ := Aside0.mk (hbox); have n2_ := Aside0.mk ((by rw [hg]; exact (below_size (by repeat (first | (with_reducible first | exact HB.out | apply below_alloc | apply pw_below_drewN | apply below_drew1) | exact HB.out))) : w.heap.size ≤ gb267)); have n3_ := Aside0.mk ((by rw [hg]; exact (below_size (by repeat (first | (with_reducible first | exact HB.out | apply below_alloc | apply pw_below_drewN | apply below_drew1) | exact HB.out))) : w.heap.size ≤ gb267)); clear HB; have HB := n0_; have BK267 := n1_; have GW267 := n2_; have GE267 := n3_; clear n0_ n1_ n2_ n3_; clear hb hbox hg) | ((with_reducible refine gate_dst (N := 3) rfl ?_); refine box_event ?hg (N := 3) ?hd (cs := #[.int .i64 a1_0, .int .i64 a1_1]) (t := 27) ?hr ?_; (case hd => rfl); (case hg => rfl); (case hr => first | (go_simp; done) | (go_simp; rfl)); intro gb268 hg w11 hbox hb; have n0_ := Aside0.mk (blk_below (g := gb267) (o := .cells #[.int .i64 a0_0, .int .i64 a0_1] 27 (0, 0)) (by (with_reducible repeat (first | refine blk_drewN ?_ _ | refine blk_drew ?_ | refine blk_alloc ?_ _)); exact BK267.out) hb); have n1_ := Aside0.mk (below_step (by repeat (first | (with_reducible first | exact HB.out | apply below_alloc | apply pw_below_drewN | apply below_drew1 | refine below_set ?_ GE267.out) | exact HB.out)) hb); have n2_ := Aside0.mk (hbox); have n3_ := Aside0.mk ((by rw [hg]; exact (below_size (by repeat (first | (with_reducible first | exact HB.out | apply below_alloc | apply pw_below_drewN | apply below_drew1 | refine below_set ?_ GE267.out) | exact HB.out))) : w.heap.size ≤ gb268)); have n4_ := Aside0.mk ((by rw [hg]; exact (below_size (by repeat (first | (with_reducible first | exact HB.out | apply below_alloc | apply pw_below_drewN | apply below_drew1 | refine below_set ?_ GE267.out) | exact HB.out))) : w.heap.size ≤ gb268)); have n5_ := Aside0.mk ((by rw [hg]; exact Nat.ne_of_lt (blk_lt (g := gb267) (o := .cells #[.int .i64 a0_0, .int .i64 a0_1] 27 (0, 0)) (by (with_reducible repeat (first | refine blk_drewN ?_ _ | refine blk_drew ?_ | refine blk_alloc ?_ _)); exact BK267.out)) : gb267 ≠ gb268)); have n6_ := Aside0.mk ((by rw [hg]; exact Nat.ne_of_gt (blk_lt (g := gb267) (o := .cells #[.int .i64 a0_0, .int .i64 a0_1] 27 (0, 0)) (by (with_reducible repeat (first | refine blk_drewN ?_ _ | refine blk_drew ?_ | refine blk_alloc ?_ _)); exact BK267.out)) : gb268 ≠ gb267)); clear BK267; clear HB; have BK267 := n0_; have HB := n1_; have BK268 := n2_; have GW268 := n3_; have GE268 := n4_; have NB267_268 := n5_; have NB268_267 := n6_; clear n0_ n1_ n2_ n3_ n4_ n5_ n6_; clear hb hbox hg; have hnb12 := NB267_268.out; have hnc12 := NB268_267.out; have hcz13_0 : w11.cell? ⟨gb267, 0, none⟩ = some (.int .i64 a0_0) := (blk_cell BK267.out 0).trans rfl; have hcz13_1 : w11.cell? ⟨gb267, 1, none⟩ = some (.int .i64 a0_1) := (blk_cell BK267.out 1).trans rfl; have hfz13_0 := blk_frozen BK267.out 0; have hfz13_1 := blk_frozen BK267.out 1; have hcz14_0 : w11.cell? ⟨gb268, 0, none⟩ = some (.int .i64 a1_0) := (blk_cell BK268.out 0).trans rfl; have hcz14_1 : w11.cell? ⟨gb268, 1, none⟩ = some (.int .i64 a1_1) := (blk_cell BK268.out 1).trans rfl; have hfz14_0 := blk_frozen BK268.out 0; have hfz14_1 := blk_frozen BK268.out 1))
      go_ret
      exact ⟨by first | rfl | (simp [errW_none, errW_some] <;> rfl) | (simp [*, errW_none, errW_some] <;> rfl), by repeat (first | (with_reducible first | exact HB.out | apply below_alloc | apply pw_below_drewN | apply below_drew1 | refine below_set ?_ GE267.out | refine below_set ?_ GE268.out) | exact HB.out)⟩
    · rw [if_neg c9] at H
      have c9b0 : (a0_0 == a1_0) = false := beq_eq_false_iff_ne.mpr c9
      have c9b1 : (a0_0 != a1_0) = true := bne_iff_ne.mpr c9
      obtain rfl := Option.some.inj H
      go_enter Try.func42, Try.ntmps42
      go_wp2_with (first | ((with_reducible refine gate_dst (N := 2) rfl ?_); refine box_event ?hg (N := 2) ?hd (cs := #[.int .i64 a0_0, .int .i64 a0_1]) (t := 27) ?hr ?_; (case hd => rfl); (case hg => rfl); (case hr => first | (go_simp; done) | (go_simp; rfl)); intro gb267 hg w15 hbox hb; have n0_ := Aside0.mk (below_step (by repeat (first | (with_reducible first | exact HB.out | apply below_alloc | apply pw_below_drewN | apply below_drew1) | exact HB.out)) hb); have n1_ := Aside0.mk (hbox); have n2_ := Aside0.mk ((by rw [hg]; exact (below_size (by repeat (first | (with_reducible first | exact HB.out | apply below_alloc | apply pw_below_drewN | apply below_drew1) | exact HB.out))) : w.heap.size ≤ gb267)); have n3_ := Aside0.mk ((by rw [hg]; exact (below_size (by repeat (first | (with_reducible first | exact HB.out | apply below_alloc | apply pw_below_drewN | apply below_drew1) | exact HB.out))) : w.heap.size ≤ gb267)); clear HB; have HB := n0_; have BK267 := n1_; have GW267 := n2_; have GE267 := n3_; clear n0_ n1_ n2_ n3_; clear hb hbox hg) | ((with_reducible refine gate_dst (N := 3) rfl ?_); refine box_event ?hg (N := 3) ?hd (cs := #[.int .i64 a1_0, .int .i64 a1_1]) (t := 27) ?hr ?_; (case hd => rfl); (case hg => rfl); (case hr => first | (go_simp; done) | (go_simp; rfl)); intro gb268 hg w16 hbox hb; have n0_ := Aside0.mk (blk_below (g := gb267) (o := .cells #[.int .i64 a0_0, .int .i64 a0_1] 27 (0, 0)) (by (with_reducible repeat (first | refine blk_drewN ?_ _ | refine blk_drew ?_ | refine blk_alloc ?_ _)); exact BK267.out) hb); have n1_ := Aside0.mk (below_step (by repeat (first | (with_reducible first | exact HB.out | apply below_alloc | apply pw_below_drewN | apply below_drew1 | refine below_set ?_ GE267.out) | exact HB.out)) hb); have n2_ := Aside0.mk (hbox); have n3_ := Aside0.mk ((by rw [hg]; exact (below_size (by repeat (first | (with_reducible first | exact HB.out | apply below_alloc | apply pw_below_drewN | apply below_drew1 | refine below_set ?_ GE267.out) | exact HB.out))) : w.heap.size ≤ gb268)); have n4_ := Aside0.mk ((by rw [hg]; exact (below_size (by repeat (first | (with_reducible first | exact HB.out | apply below_alloc | apply pw_below_drewN | apply below_drew1 | refine below_set ?_ GE267.out) | exact HB.out))) : w.heap.size ≤ gb268)); have n5_ := Aside0.mk ((by rw [hg]; exact Nat.ne_of_lt (blk_lt (g := gb267) (o := .cells #[.int .i64 a0_0, .int .i64 a0_1] 27 (0, 0)) (by (with_reducible repeat (first | refine blk_drewN ?_ _ | refine blk_drew ?_ | refine blk_alloc ?_ _)); exact BK267.out)) : gb267 ≠ gb268)); have n6_ := Aside0.mk ((by rw [hg]; exact Nat.ne_of_gt (blk_lt (g := gb267) (o := .cells #[.int .i64 a0_0, .int .i64 a0_1] 27 (0, 0)) (by (with_reducible repeat (first | refine blk_drewN ?_ _ | refine blk_drew ?_ | refine blk_alloc ?_ _)); exact BK267.out)) : gb268 ≠ gb267)); clear BK267; clear HB; have BK267 := n0_; have HB := n1_; have BK268 := n2_; have GW268 := n3_; have GE268 := n4_; have NB267_268 := n5_; have NB268_267 := n6_; clear n0_ n1_ n2_ n3_ n4_ n5_ n6_; clear hb hbox hg; have hnb17 := NB267_268.out; have hnc17 := NB268_267.out; have hcz18_0 : w16.cell? ⟨gb267, 0, none⟩ = some (.int .i64 a0_0) := (blk_cell BK267.out 0).trans rfl; have hcz18_1 : w16.cell? ⟨gb267, 1, none⟩ = some (.int .i64 a0_1) := (blk_cell BK267.out 1).trans rfl; have hfz18_0 := blk_frozen BK267.out 0; have hfz18_1 := blk_frozen BK267.out 1; have hcz19_0 : w16.cell? ⟨gb268, 0, none⟩ = some (.int .i64 a1_0) := (blk_cell BK268.out 0).trans rfl; have hcz19_1 : w16.cell? ⟨gb268, 1, none⟩ = some (.int .i64 a1_1) := (blk_cell BK268.out 1).trans rfl; have hfz19_0 := blk_frozen BK268.out 0; have hfz19_1 := blk_frozen BK268.out 1))
      go_ret
      exact ⟨by first | rfl | (simp [errW_none, errW_some] <;> rfl) | (simp [*, errW_none, errW_some] <;> rfl), by repeat (first | (with_reducible first | exact HB.out | apply below_alloc | apply pw_below_drewN | apply below_drew1 | refine below_set ?_ GE267.out | refine below_set ?_ GE268.out) | exact HB.out)⟩
end Go.Proofs.Ytfgnjndfnijjoaa.Print
end
namespace Go.Proofs.Ytfgnjndfnijjoaa.Print
end Go.Proofs.Ytfgnjndfnijjoaa.Print
section
namespace Go.Proofs.Ytfgnjndfnijjoaa.Print
open Go.RowKit Go.Proofs.YtfgnjndfnijjoaaW.PrintWords Go.Proofs.YtfgnjndfnijjoaaW.PrintLast Go.Proofs.YtfgnjndfnijjoaaW.PrintMore
attribute [local go_sem] max2_int min2_int max_two min_two max_three min_three max_four min_four
attribute [local go_sem] run_store_float
set_option linter.unusedVariables false
set_option linter.unusedSimpArgs false
def bonsairef11_Version.j0 : Nat → ByteArray → Bool → Option (Int × Int)
  | 0, _, _ => none
  | k + 1, x0, x11 => if x11 = true then (some (0, 7)) else (if (x0.size : Int) < 5 then (some (0, 2)) else (if 4 < (x0.size : Int) then (some (wrap64 (bt x0 4), 0)) else (none)))
def bonsairef11_Version.f (k : Nat) (a0 : ByteArray) : Option (Int × Int) := if (a0.size : Int) < 4 then (bonsairef11_Version.j0 k a0 true) else (if 4 ≤ (a0.size : Int) then (bonsairef11_Version.j0 k a0 ((a0.extract 0 4).toList != ([66, 78, 83, 73] : List UInt8))) else (none))
set_option maxHeartbeats 8000000 in
set_option maxRecDepth 100000 in
theorem bonsairef11_Version.calls (k : Nat) (a0 : ByteArray) (r1 : Int) (r2 : Int) (w : World) (h : bonsairef11_Version.f k a0 = some (r1, r2)) :
    Calls Try.prog 35 #[.string a0] w fun e w' => e = .returned (.tuple #[.int .i64 r1, .int .i64 r2]) ∧ Drawn0 w w' := by
  have H : (if (a0.size : Int) < 4 then (bonsairef11_Version.j0 k a0 true) else (if 4 ≤ (a0.size : Int) then (bonsairef11_Version.j0 k a0 ((a0.extract 0 4).toList != ([66, 78, 83, 73] : List UInt8))) else (none))) = some (r1, r2) := h
  clear h
  have HC2 := Aside0.mk H
  clear H
  go_enter Try.func35, Try.ntmps35
  go_upto_region 1 with (fail)
  go_cut [11] (fun v11 wc => ∃ (kq : Nat) (x11_1 : Bool), v11 = .bool x11_1 ∧ Aside0 (bonsairef11_Version.j0 kq a0 x11_1 = some (r1, r2)) ∧ Aside0 (kq ≤ k) ∧ Drawn0 w wc)
  case first =>
    have H := HC2.out
    clear HC2
    by_cases c3 : (a0.size : Int) < 4
    · rw [if_pos c3] at H
      have c3b0 : decide ((a0.size : Int) < 4) = true := decide_eq_true c3
      have c3b1 : decide (a0.size < 4) = true := decide_eq_true (by omega)
      clear c3
      (first | rw [c3b0] | (simp only [i64_w, i32_w]; rw [c3b0]) | skip)
      have H' := Aside0.mk H
      clear H
      go_wp2
      go_meet
      case rel => exact ⟨_, (true), (by first | rfl | (simp; done) | (simp [*]; done)), H', ⟨by first | omega | exact Nat.le_refl _⟩, by repeat (first | exact Drawn0.refl _ | apply Drawn0.step)⟩
    · rw [if_neg c3] at H
      have c3b0 : decide ((a0.size : Int) < 4) = false := decide_eq_false c3
      have c3b1 : decide (a0.size < 4) = false := decide_eq_false (by omega)
      clear c3
      (first | rw [c3b0] | (simp only [i64_w, i32_w]; rw [c3b0]) | skip)
      by_cases c4 : 4 ≤ (a0.size : Int)
      · rw [if_pos c4] at H
        have c4b0 := eq_true c4
        have c4b1 : decide (4 ≤ (a0.size : Int)) = true := decide_eq_true c4
        clear c4
        have H' := Aside0.mk H
        clear H
        go_wp2
        go_meet
        case rel => exact ⟨_, (((a0.extract 0 4).toList != ([66, 78, 83, 73] : List UInt8))), (by first | rfl | (simp; done) | (simp [*]; done)), H', ⟨by first | omega | exact Nat.le_refl _⟩, by repeat (first | exact Drawn0.refl _ | apply Drawn0.step)⟩
      · rw [if_neg c4] at H
        exact absurd H (by simp)
  case rest =>
    clear HC2
    try clear p2
    try clear c3
    try clear c3b0
    try clear c3b1
    try clear c4
    try clear c4b0
    try clear c4b1
    obtain ⟨kq, x11_1, rfl, HA, HJ1, ⟨mc1, rfl⟩⟩ := hcut
    cases kq with
    | zero => exact absurd HA.out (by simp [bonsairef11_Version.j0])
    | succ kj1 =>
      have H := HA.out
      clear HA
      simp only [bonsairef11_Version.j0] at H
      by_cases c5 : x11_1 = true
      · subst c5
        have H1 : (some (0, 7)) = some (r1, r2) := by rw [if_pos rfl] at H; exact H
        clear H
        have H := H1
        clear H1
        simp only [Option.some.injEq, Prod.mk.injEq] at H
        obtain ⟨rfl, rfl⟩ := H
        go_wp2
        go_ret2
        exact ⟨by first | rfl | (simp; done) | (simp [*]; done), by repeat (first | exact Drawn0.refl _ | apply Drawn0.step)⟩
      · replace c5 := Bool.eq_false_iff.mpr c5
        subst c5
        have H1 : (if (a0.size : Int) < 5 then (some (0, 2)) else (if 4 < (a0.size : Int) then (some (wrap64 (bt a0 4), 0)) else (none))) = some (r1, r2) := by rw [if_neg (show ¬ (false = true) by decide)] at H; exact H
        clear H
        have H := H1
        clear H1
        by_cases c6 : (a0.size : Int) < 5
        · rw [if_pos c6] at H
          have c6b0 : decide ((a0.size : Int) < 5) = true := decide_eq_true c6
          have c6b1 : decide (a0.size < 5) = true := decide_eq_true (by omega)
          clear c6
          simp only [Option.some.injEq, Prod.mk.injEq] at H
          obtain ⟨rfl, rfl⟩ := H
          go_wp2
          go_ret2
          exact ⟨by first | rfl | (simp; done) | (simp [*]; done), by repeat (first | exact Drawn0.refl _ | apply Drawn0.step)⟩
        · rw [if_neg c6] at H
          have c6b0 : decide ((a0.size : Int) < 5) = false := decide_eq_false c6
          have c6b1 : decide (a0.size < 5) = false := decide_eq_false (by omega)
          clear c6
          by_cases c7 : 4 < (a0.size : Int)
          · rw [if_pos c7] at H
            have c7b0 : decide (4 < (a0.size : Int)) = true := decide_eq_true c7
            have c7b1 : decide (4 < a0.size) = true := decide_eq_true (by omega)
            clear c7
            simp only [Option.some.injEq, Prod.mk.injEq] at H
            obtain ⟨rfl, rfl⟩ := H
            have p8 : 0 ≤ (4 : Int) := (by omega)
            have q8 : 4 < a0.size := (by have : (4 : Int) < (a0.size : Int) := of_decide_eq_true (by first | (with_reducible assumption) | assumption); omega)
            have hx8 : ∀ h : 4 < a0.size, ((a0[4]'h).toNat : Int) = bt a0 4 := bt_at a0 4
            clear p8
            have qi8 : (4 < (a0.size : Int)) = True := eq_true (of_decide_eq_true (by first | (with_reducible assumption) | assumption))
            replace q8 := eq_true q8
            go_wp2
            go_ret2
            exact ⟨by first | rfl | (simp; done) | (simp [*]; done), by repeat (first | exact Drawn0.refl _ | apply Drawn0.step)⟩
          · rw [if_neg c7] at H
            exact absurd H (by simp)
end Go.Proofs.Ytfgnjndfnijjoaa.Print
end
section
namespace Go.Proofs.Ytfgnjndfnijjoaa.Print
open Go.RowKit Go.Proofs.YtfgnjndfnijjoaaW.PrintWords Go.Proofs.YtfgnjndfnijjoaaW.PrintLast Go.Proofs.YtfgnjndfnijjoaaW.PrintMore
attribute [local go_sem] max2_int min2_int max_two min_two max_three min_three max_four min_four
attribute [local go_sem] run_store_float
set_option linter.unusedVariables false
set_option linter.unusedSimpArgs false
def IsS68 (w0 W : World) (g : Nat) (f0 : ByteArray) (f1 : Int) (f2 : Int) : Prop := W.heap[g]? = some (.cells #[.string f0, .int .i64 f1, .int .i64 f2] 68 (0, 0)) ∧ w0.heap.size ≤ g
theorem IsS68.grown {w0 W : World} {g : Nat} {f0 : ByteArray} {f1 : Int} {f2 : Int} {W1 : World} {row : Option Nat} (h : IsS68 w0 W g f0 f1 f2) (hw : W.grownBy W1 row) (hne : some g ≠ row) : IsS68 w0 W1 g f0 f1 f2 := by
  obtain ⟨hb, hg⟩ := h
  exact ⟨blk_grown hb hw hne, hg⟩
theorem IsS68.fresh {w0 W : World} {g : Nat} {f0 : ByteArray} {f1 : Int} {f2 : Int} (h : IsS68 w0 W g f0 f1 f2) : ∀ k, W.heap.size ≤ k → k ≠ g := by
  obtain ⟨hb, hg⟩ := h
  exact Kd.freshB hb
theorem IsS68.kept {w0 W : World} {g : Nat} {f0 : ByteArray} {f1 : Int} {f2 : Int} {W1 : World} {S : Nat → Prop} (h : IsS68 w0 W g f0 f1 f2) (hk : Kept W W1 S) (hne : ¬ S g) : IsS68 w0 W1 g f0 f1 f2 := by
  obtain ⟨hb, hg⟩ := h
  exact ⟨blk_kept hb hk hne, hg⟩
theorem IsS68.below {w0 W : World} {g : Nat} {f0 : ByteArray} {f1 : Int} {f2 : Int} {W1 : World} (h : IsS68 w0 W g f0 f1 f2) (hw : Below W.heap.size W W1) : IsS68 w0 W1 g f0 f1 f2 := h.grown (grown_of_below hw none) (by simp)
theorem IsS68.alloc {w0 W : World} {g : Nat} {f0 : ByteArray} {f1 : Int} {f2 : Int} (h : IsS68 w0 W g f0 f1 f2) (o : Obj) : IsS68 w0 (W.alloc o) g f0 f1 f2 := h.below (below_alloc (Below.refl _ _) o)
theorem IsS68.drewN {w0 W : World} {g : Nat} {f0 : ByteArray} {f1 : Int} {f2 : Int} (h : IsS68 w0 W g f0 f1 f2) (m : Nat) : IsS68 w0 (W.drewN m) g f0 f1 f2 := h
theorem IsS68.drew {w0 W : World} {g : Nat} {f0 : ByteArray} {f1 : Int} {f2 : Int} (h : IsS68 w0 W g f0 f1 f2) : IsS68 w0 W.drew g f0 f1 f2 := h
theorem IsS68.at_ {w0 W : World} {g : Nat} {f0 : ByteArray} {f1 : Int} {f2 : Int} {w' : World} {m : Nat} (hq : W.drewN m = w') (h : IsS68 w0 W g f0 f1 f2) : IsS68 w0 w' g f0 f1 f2 := by subst hq; exact IsS68.drewN h m
theorem IsS68.apart {w0 W : World} {g : Nat} {f0 : ByteArray} {f1 : Int} {f2 : Int} {α : Type} {d : Kd α} {e : Nat} {base : Nat} {ok : Nat → Prop} {v : Value} {xs : List α} (h : IsS68 w0 W g f0 f1 f2) (ho : d.R e W base ok v xs) (ht : ∀ q, q ∈ e :: d.E → q ≠ 68) : d.R e W base (fun k => ok k ∧ k ≠ g) v xs := by
  obtain ⟨hb, hg⟩ := h
  exact Kd.R_types ho hb ht
theorem IsS68.own_ne {w0 W : World} {g : Nat} {f0 : ByteArray} {f1 : Int} {f2 : Int} {α : Type} {d : Kd α} {e : Nat} {base : Nat} {ok : Nat → Prop} {v : Value} {xs : List α} (h : IsS68 w0 W g f0 f1 f2) (ho : d.R e W base ok v xs) (ht : e ≠ 68) : some g ≠ v.ownBlock := by
  obtain ⟨hb, hg⟩ := h
  exact Kd.R_ne ho hb ht
theorem IsS68.lt {w0 W : World} {g : Nat} {f0 : ByteArray} {f1 : Int} {f2 : Int} (h : IsS68 w0 W g f0 f1 f2) : g < W.heap.size := by
  obtain ⟨hb, hg⟩ := h
  exact blk_lt hb
theorem IsS68.ge {w0 W : World} {g : Nat} {f0 : ByteArray} {f1 : Int} {f2 : Int} (h : IsS68 w0 W g f0 f1 f2) : w0.heap.size ≤ g := by
  obtain ⟨hb, hg⟩ := h
  exact hg
theorem IsS68.far {w0 W : World} {g : Nat} {f0 : ByteArray} {f1 : Int} {f2 : Int} {p : Addr} (h : IsS68 w0 W g f0 f1 f2) (hne : g ≠ p.block) (u : Value) : IsS68 w0 (W.setCell p u) g f0 f1 f2 := by
  obtain ⟨hb, hg⟩ := h
  exact ⟨blk_far hb hne u, hg⟩
theorem cellS68_0 {W : World} {g : Nat} {f0 : ByteArray} {f1 : Int} {f2 : Int} (h : W.heap[g]? = some (.cells #[.string f0, .int .i64 f1, .int .i64 f2] 68 (0, 0))) : W.cell? ⟨g, 0, none⟩ = some (.string f0) := (blk_cell h 0).trans rfl
theorem IsS68.set_0 {w0 W : World} {g : Nat} {f0 : ByteArray} {f1 : Int} {f2 : Int} (h : IsS68 w0 W g f0 f1 f2) (x : ByteArray) : IsS68 w0 (W.setCell ⟨g, 0, none⟩ (.string x)) g x f1 f2 := by
  obtain ⟨hb, hg⟩ := h
  exact ⟨by simpa using blk_set hb 0 (.string x), hg⟩
theorem cellS68_1 {W : World} {g : Nat} {f0 : ByteArray} {f1 : Int} {f2 : Int} (h : W.heap[g]? = some (.cells #[.string f0, .int .i64 f1, .int .i64 f2] 68 (0, 0))) : W.cell? ⟨g, 1, none⟩ = some (.int .i64 f1) := (blk_cell h 1).trans rfl
theorem IsS68.set_1 {w0 W : World} {g : Nat} {f0 : ByteArray} {f1 : Int} {f2 : Int} (h : IsS68 w0 W g f0 f1 f2) (x : Int) : IsS68 w0 (W.setCell ⟨g, 1, none⟩ (.int .i64 x)) g f0 x f2 := by
  obtain ⟨hb, hg⟩ := h
  exact ⟨by simpa using blk_set hb 1 (.int .i64 x), hg⟩
theorem cellS68_2 {W : World} {g : Nat} {f0 : ByteArray} {f1 : Int} {f2 : Int} (h : W.heap[g]? = some (.cells #[.string f0, .int .i64 f1, .int .i64 f2] 68 (0, 0))) : W.cell? ⟨g, 2, none⟩ = some (.int .i64 f2) := (blk_cell h 2).trans rfl
theorem IsS68.set_2 {w0 W : World} {g : Nat} {f0 : ByteArray} {f1 : Int} {f2 : Int} (h : IsS68 w0 W g f0 f1 f2) (x : Int) : IsS68 w0 (W.setCell ⟨g, 2, none⟩ (.int .i64 x)) g f0 f1 x := by
  obtain ⟨hb, hg⟩ := h
  exact ⟨by simpa using blk_set hb 2 (.int .i64 x), hg⟩
mutual
def bonsairef03_Reader_Num.l0 : Nat → Int → Int → Int → ByteArray → Int → Int → Option (Int × ByteArray × Int × Int)
  | 0, _, _, _, _, _, _ => none
  | k + 1, x3, x4, x5, x1000, x1001, x1002 => if x5 < 10 then (bonsairef03_Reader_Num.j1 k x3 x4 x5 (x1002 == 0) x1000 x1001 x1002) else (bonsairef03_Reader_Num.j1 k x3 x4 x5 false x1000 x1001 x1002)
def bonsairef03_Reader_Num.j1 : Nat → Int → Int → Int → Bool → ByteArray → Int → Int → Option (Int × ByteArray × Int × Int)
  | 0, _, _, _, _, _, _, _ => none
  | k + 1, x3, x4, x5, x15, x1000, x1001, x1002 => if x15 = true then (if (wrap64 (x1001 + x5)) ≥ (x1000.size : Int) then (some (0, x1000, x1001, 2)) else (if 0 ≤ (wrap64 (x1001 + x5)) then (if (wrap64 (x1001 + x5)) < (x1000.size : Int) then (if x5 = 9 then (if (IntKind.u64.wrap (bt x1000 (wrap64 (x1001 + x5)))) > 1 then (bonsairef03_Reader_Num.j2 k x3 x4 x5 (IntKind.u64.wrap (bt x1000 (wrap64 (x1001 + x5)))) true x1000 x1001 x1002) else (if x5 > 0 then (bonsairef03_Reader_Num.j2 k x3 x4 x5 (IntKind.u64.wrap (bt x1000 (wrap64 (x1001 + x5)))) ((IntKind.u64.wrap (bt x1000 (wrap64 (x1001 + x5)))) == 0) x1000 x1001 x1002) else (bonsairef03_Reader_Num.j2 k x3 x4 x5 (IntKind.u64.wrap (bt x1000 (wrap64 (x1001 + x5)))) false x1000 x1001 x1002))) else (if x5 > 0 then (bonsairef03_Reader_Num.j2 k x3 x4 x5 (IntKind.u64.wrap (bt x1000 (wrap64 (x1001 + x5)))) ((IntKind.u64.wrap (bt x1000 (wrap64 (x1001 + x5)))) == 0) x1000 x1001 x1002) else (bonsairef03_Reader_Num.j2 k x3 x4 x5 (IntKind.u64.wrap (bt x1000 (wrap64 (x1001 + x5)))) false x1000 x1001 x1002))) else (none)) else (none))) else (some (0, x1000, x1001, x1002))
def bonsairef03_Reader_Num.j2 : Nat → Int → Int → Int → Int → Bool → ByteArray → Int → Int → Option (Int × ByteArray × Int × Int)
  | 0, _, _, _, _, _, _, _, _ => none
  | k + 1, x3, x4, x5, x6, x58, x1000, x1001, x1002 => if x58 = true then (some (0, x1000, x1001, 3)) else (if x6 < 128 then (some (IntKind.u64.wrap (x3 + (IntKind.u64.wrap ((Int.tmod x6 128) * x4))), x1000, wrap64 ((wrap64 (x1001 + x5)) + 1), x1002)) else (bonsairef03_Reader_Num.l0 k (IntKind.u64.wrap (x3 + (IntKind.u64.wrap ((Int.tmod x6 128) * x4)))) (IntKind.u64.wrap (x4 * 128)) (wrap64 (x5 + 1)) x1000 x1001 x1002))
end
def bonsairef03_Reader_Num.f (k : Nat) (s0_0 : ByteArray) (s0_1 : Int) (s0_2 : Int) : Option (Int × ByteArray × Int × Int) := bonsairef03_Reader_Num.l0 k 0 1 0 s0_0 s0_1 s0_2
set_option maxHeartbeats 8000000 in
set_option maxRecDepth 100000 in
theorem bonsairef03_Reader_Num.calls (k : Nat) (g : Nat) (s0_0 : ByteArray) (s0_1 : Int) (s0_2 : Int) (r1 : Int) (r2 : ByteArray) (r3 : Int) (r4 : Int) (w0 w : World) (hI : IsS68 w0 w g s0_0 s0_1 s0_2) (hB : Below w0.heap.size w0 w) (h : bonsairef03_Reader_Num.f k s0_0 s0_1 s0_2 = some (r1, r2, r3, r4)) :
    Calls Try.prog 36 #[.pointer (some ⟨g, 0, none⟩)] w fun e w' => e = .returned (.int .u64 r1) ∧ IsS68 w0 w' g r2 r3 r4 ∧ Below w0.heap.size w0 w' ∧ KeepBut w w' g none := by
  have HI0 := Aside0.mk hI
  have HK := Aside0.mk (KeepBut.refl w g none)
  have HL := Aside0.mk hB.size
  clear hI
  have HW0 := Aside0.mk hB.size
  have HB := Aside0.mk hB
  clear hB
  have H : (bonsairef03_Reader_Num.l0 k 0 1 0 s0_0 s0_1 s0_2) = some (r1, r2, r3, r4) := h
  clear h
  have H' := Aside0.mk H
  clear H
  go_enter Try.func36, Try.ntmps36
  go_wp2
  repeat (go_quiet (fail); try go_wp2)
  go_loopg [3, 4, 5] k (fun kq v3 v4 v5 w' => ∃ (x3_1 : Int) (x4_1 : Int) (x5_1 : Int) (x1001_1 : Int) (x1002_1 : Int), v3 = .int .u64 x3_1 ∧ v4 = .int .u64 x4_1 ∧ v5 = .int .i64 x5_1 ∧ Aside0 (bonsairef03_Reader_Num.l0 kq x3_1 x4_1 x5_1 s0_0 x1001_1 x1002_1 = some (r1, r2, r3, r4)) ∧ Aside0 (kq ≤ k) ∧ Aside0 (IsS68 w0 w' g s0_0 x1001_1 x1002_1) ∧ Aside0 (KeepBut w w' g none) ∧ Aside0 (Below w0.heap.size w0 w'))
  case atStart => exact ⟨(0), (1), (0), (s0_1), (s0_2), (by first | rfl | (simp; done) | (simp [*]; done)), (by first | rfl | (simp; done) | (simp [*]; done)), (by first | rfl | (simp; done) | (simp [*]; done)), H', ⟨Nat.le_refl _⟩, ⟨by repeat (first | (with_reducible first | exact HI0.out | apply IsS68.alloc | apply IsS68.drewN | apply IsS68.drew | apply IsS68.set_0 | apply IsS68.set_1 | apply IsS68.set_2) | exact HI0.out)⟩, ⟨by repeat (first | (with_reducible first | exact HK.out | apply KeepBut.set_ | apply keep_drewN | apply keep_drew | apply keep_alloc) | exact HK.out)⟩, ⟨by repeat (first | (with_reducible first | exact HB.out | apply below_alloc | apply pw_below_drewN | apply below_drew1 | refine below_set ?_ (IsS68.ge HI0.out)) | exact HB.out)⟩⟩
  case round =>
    clear H'
    obtain ⟨x3_1, x4_1, x5_1, x1001_1, x1002_1, rfl, rfl, rfl, HA, HK1, HI0, HK, HB⟩ := hrel
    cases gk with
    | zero => exact absurd HA.out (by simp [bonsairef03_Reader_Num.l0])
    | succ k1 =>
      have H := HA.out
      clear HA
      simp only [bonsairef03_Reader_Num.l0] at H
      have HC2 := Aside0.mk H
      clear H
      go_upto_region 4 with (fail)
      repeat (go_quiet (fail); go_upto_region 4 with (fail))
      go_cut [15] (fun v15 wc => ∃ (kq : Nat) (x15_1 : Bool), v15 = .bool x15_1 ∧ Aside0 (bonsairef03_Reader_Num.j1 kq x3_1 x4_1 x5_1 x15_1 s0_0 x1001_1 x1002_1 = some (r1, r2, r3, r4)) ∧ Aside0 (kq ≤ k1) ∧ Aside0 (IsS68 w0 wc g s0_0 x1001_1 x1002_1) ∧ Aside0 (KeepBut w wc g none) ∧ Aside0 (Below w0.heap.size w0 wc))
      case first =>
        have H := HC2.out
        clear HC2
        by_cases c3 : x5_1 < 10
        · rw [if_pos c3] at H
          have c3b0 : decide (x5_1 < 10) = true := decide_eq_true c3
          clear c3
          (first | rw [c3b0] | (simp only [i64_w, i32_w]; rw [c3b0]) | skip)
          have H' := Aside0.mk H
          clear H
          obtain ⟨HGz4, hgz4⟩ := HI0.out
          have hcz4_0 := cellS68_0 HGz4
          have hcz4_1 := cellS68_1 HGz4
          have hcz4_2 := cellS68_2 HGz4
          have hfz4_0 := blk_frozen HGz4 0
          have hfz4_1 := blk_frozen HGz4 1
          have hfz4_2 := blk_frozen HGz4 2
          clear HGz4 hgz4
          go_wp2
          repeat (go_quiet (fail); try go_wp2)
          go_meet
          case rel => exact ⟨_, ((x1002_1 == 0)), (by first | rfl | (simp; done) | (simp [*]; done)), H', ⟨by have := HK1.out; first | omega | exact Nat.le_refl _⟩, ⟨by repeat (first | (with_reducible first | exact HI0.out | apply IsS68.alloc | apply IsS68.drewN | apply IsS68.drew | apply IsS68.set_0 | apply IsS68.set_1 | apply IsS68.set_2) | exact HI0.out)⟩, ⟨by repeat (first | (with_reducible first | exact HK.out | apply KeepBut.set_ | apply keep_drewN | apply keep_drew | apply keep_alloc) | exact HK.out)⟩, ⟨by repeat (first | (with_reducible first | exact HB.out | apply below_alloc | apply pw_below_drewN | apply below_drew1 | refine below_set ?_ (IsS68.ge HI0.out)) | exact HB.out)⟩⟩
        · rw [if_neg c3] at H
          have c3b0 : decide (x5_1 < 10) = false := decide_eq_false c3
          clear c3
          (first | rw [c3b0] | (simp only [i64_w, i32_w]; rw [c3b0]) | skip)
          have H' := Aside0.mk H
          clear H
          go_wp2
          repeat (go_quiet (fail); try go_wp2)
          go_meet
          case rel => exact ⟨_, (false), (by first | rfl | (simp; done) | (simp [*]; done)), H', ⟨by have := HK1.out; first | omega | exact Nat.le_refl _⟩, ⟨by repeat (first | (with_reducible first | exact HI0.out | apply IsS68.alloc | apply IsS68.drewN | apply IsS68.drew | apply IsS68.set_0 | apply IsS68.set_1 | apply IsS68.set_2) | exact HI0.out)⟩, ⟨by repeat (first | (with_reducible first | exact HK.out | apply KeepBut.set_ | apply keep_drewN | apply keep_drew | apply keep_alloc) | exact HK.out)⟩, ⟨by repeat (first | (with_reducible first | exact HB.out | apply below_alloc | apply pw_below_drewN | apply below_drew1 | refine below_set ?_ (IsS68.ge HI0.out)) | exact HB.out)⟩⟩
      case rest =>
        clear HC2
        try clear p2
        try clear c3
        try clear c3b0
        try clear hcz4_0
        try clear hcz4_1
        try clear hcz4_2
        try clear hfz4_0
        try clear hfz4_1
        try clear hfz4_2
        obtain ⟨kq, x15_1, rfl, HA, HJ1, HI0, HK, HB⟩ := hcut
        cases kq with
        | zero => exact absurd HA.out (by simp [bonsairef03_Reader_Num.j1])
        | succ kj1 =>
          have H := HA.out
          clear HA
          simp only [bonsairef03_Reader_Num.j1] at H
          by_cases c5 : x15_1 = true
          · subst c5
            have H1 : (if (wrap64 (x1001_1 + x5_1)) ≥ (s0_0.size : Int) then (some (0, s0_0, x1001_1, 2)) else (if 0 ≤ (wrap64 (x1001_1 + x5_1)) then (if (wrap64 (x1001_1 + x5_1)) < (s0_0.size : Int) then (if x5_1 = 9 then (if (IntKind.u64.wrap (bt s0_0 (wrap64 (x1001_1 + x5_1)))) > 1 then (bonsairef03_Reader_Num.j2 kj1 x3_1 x4_1 x5_1 (IntKind.u64.wrap (bt s0_0 (wrap64 (x1001_1 + x5_1)))) true s0_0 x1001_1 x1002_1) else (if x5_1 > 0 then (bonsairef03_Reader_Num.j2 kj1 x3_1 x4_1 x5_1 (IntKind.u64.wrap (bt s0_0 (wrap64 (x1001_1 + x5_1)))) ((IntKind.u64.wrap (bt s0_0 (wrap64 (x1001_1 + x5_1)))) == 0) s0_0 x1001_1 x1002_1) else (bonsairef03_Reader_Num.j2 kj1 x3_1 x4_1 x5_1 (IntKind.u64.wrap (bt s0_0 (wrap64 (x1001_1 + x5_1)))) false s0_0 x1001_1 x1002_1))) else (if x5_1 > 0 then (bonsairef03_Reader_Num.j2 kj1 x3_1 x4_1 x5_1 (IntKind.u64.wrap (bt s0_0 (wrap64 (x1001_1 + x5_1)))) ((IntKind.u64.wrap (bt s0_0 (wrap64 (x1001_1 + x5_1)))) == 0) s0_0 x1001_1 x1002_1) else (bonsairef03_Reader_Num.j2 kj1 x3_1 x4_1 x5_1 (IntKind.u64.wrap (bt s0_0 (wrap64 (x1001_1 + x5_1)))) false s0_0 x1001_1 x1002_1))) else (none)) else (none))) = some (r1, r2, r3, r4) := by rw [if_pos rfl] at H; exact H
            clear H
            have H := H1
            clear H1
            by_cases c6 : (wrap64 (x1001_1 + x5_1)) ≥ (s0_0.size : Int)
            · rw [if_pos c6] at H
              have c6b0 : decide ((s0_0.size : Int) ≤ (wrap64 (x1001_1 + x5_1))) = true := decide_eq_true c6
              clear c6
              simp only [Option.some.injEq, Prod.mk.injEq] at H
              obtain ⟨rfl, rfl, rfl, rfl⟩ := H
              obtain ⟨HGz7, hgz7⟩ := HI0.out
              have hcz7_0 := cellS68_0 HGz7
              have hcz7_1 := cellS68_1 HGz7
              have hcz7_2 := cellS68_2 HGz7
              have hfz7_0 := blk_frozen HGz7 0
              have hfz7_1 := blk_frozen HGz7 1
              have hfz7_2 := blk_frozen HGz7 2
              clear HGz7 hgz7
              go_wp2
              repeat (go_quiet (fail); try go_wp2)
              go_ret
              exact ⟨by first | rfl | (simp [errW_none, errW_some] <;> rfl) | (simp [*, errW_none, errW_some] <;> rfl), by repeat (first | (with_reducible first | exact HI0.out | apply IsS68.alloc | apply IsS68.drewN | apply IsS68.drew | apply IsS68.set_0 | apply IsS68.set_1 | apply IsS68.set_2) | exact HI0.out), by repeat (first | (with_reducible first | exact HB.out | apply below_alloc | apply pw_below_drewN | apply below_drew1 | refine below_set ?_ (IsS68.ge HI0.out)) | exact HB.out), by repeat (first | (with_reducible first | exact HK.out | apply KeepBut.set_ | apply keep_drewN | apply keep_drew | apply keep_alloc) | exact HK.out)⟩
            · rw [if_neg c6] at H
              have c6b0 : decide ((s0_0.size : Int) ≤ (wrap64 (x1001_1 + x5_1))) = false := decide_eq_false c6
              clear c6
              obtain ⟨ji8, hji8⟩ : ∃ j_ : Int, (wrap64 (x1001_1 + x5_1)) = j_ := ⟨_, rfl⟩
              replace H : (if 0 ≤ (ji8) then (if (ji8) < (s0_0.size : Int) then (if x5_1 = 9 then (if (IntKind.u64.wrap (bt s0_0 (ji8))) > 1 then (bonsairef03_Reader_Num.j2 kj1 x3_1 x4_1 x5_1 (IntKind.u64.wrap (bt s0_0 (ji8))) true s0_0 x1001_1 x1002_1) else (if x5_1 > 0 then (bonsairef03_Reader_Num.j2 kj1 x3_1 x4_1 x5_1 (IntKind.u64.wrap (bt s0_0 (ji8))) ((IntKind.u64.wrap (bt s0_0 (ji8))) == 0) s0_0 x1001_1 x1002_1) else (bonsairef03_Reader_Num.j2 kj1 x3_1 x4_1 x5_1 (IntKind.u64.wrap (bt s0_0 (ji8))) false s0_0 x1001_1 x1002_1))) else (if x5_1 > 0 then (bonsairef03_Reader_Num.j2 kj1 x3_1 x4_1 x5_1 (IntKind.u64.wrap (bt s0_0 (ji8))) ((IntKind.u64.wrap (bt s0_0 (ji8))) == 0) s0_0 x1001_1 x1002_1) else (bonsairef03_Reader_Num.j2 kj1 x3_1 x4_1 x5_1 (IntKind.u64.wrap (bt s0_0 (ji8))) false s0_0 x1001_1 x1002_1))) else (none)) else (none)) = some (r1, r2, r3, r4) := by first | (rw [hji8] at H; exact H) | (simp only [hji8] at H ⊢; exact H)
              (try rw [hji8] at c6b0)
              have hji8w : (IntKind.i64.wrap (x1001_1 + x5_1)) = ji8 := (i64_w _).trans hji8
              by_cases c9 : 0 ≤ (ji8)
              · rw [if_pos c9] at H
                have c9b0 : decide (0 ≤ (ji8)) = true := decide_eq_true c9
                clear c9
                by_cases c10 : (ji8) < (s0_0.size : Int)
                · rw [if_pos c10] at H
                  have c10b0 : decide ((ji8) < (s0_0.size : Int)) = true := decide_eq_true c10
                  clear c10
                  have HC12 := Aside0.mk H
                  clear H
                  obtain ⟨HGz13, hgz13⟩ := HI0.out
                  have hcz13_0 := cellS68_0 HGz13
                  have hcz13_1 := cellS68_1 HGz13
                  have hcz13_2 := cellS68_2 HGz13
                  have hfz13_0 := blk_frozen HGz13 0
                  have hfz13_1 := blk_frozen HGz13 1
                  have hfz13_2 := blk_frozen HGz13 2
                  clear HGz13 hgz13
                  have p11 : 0 ≤ ((ji8) : Int) := of_decide_eq_true (by first | (with_reducible assumption) | assumption)
                  have q11 : (ji8) < (s0_0.size : Int) := of_decide_eq_true (by first | (with_reducible assumption) | assumption)
                  have hx11 := bt_at s0_0 (ji8)
                  replace p11 := eq_true p11
                  replace q11 := eq_true q11
                  go_upto_region 10 with (fail)
                  repeat (go_quiet (fail); go_upto_region 10 with (fail))
                  go_cut [58] (fun v58 wc => ∃ (kq : Nat) (x58_11 : Bool), v58 = .bool x58_11 ∧ Aside0 (bonsairef03_Reader_Num.j2 kq x3_1 x4_1 x5_1 (IntKind.u64.wrap (bt s0_0 (ji8))) x58_11 s0_0 x1001_1 x1002_1 = some (r1, r2, r3, r4)) ∧ Aside0 (kq ≤ kj1) ∧ Aside0 (IsS68 w0 wc g s0_0 x1001_1 x1002_1) ∧ Aside0 (KeepBut w wc g none) ∧ Aside0 (Below w0.heap.size w0 wc))
                  case first =>
                    have H := HC12.out
                    clear HC12
                    by_cases c14 : x5_1 = 9
                    · rw [if_pos c14] at H
                      have c14b0 : (x5_1 == 9) = true := beq_iff_eq.mpr c14
                      have c14b1 : (x5_1 != 9) = false := bne_eq_false_iff_eq.mpr c14
                      clear c14
                      (first | rw [c14b0] | (simp only [i64_w, i32_w]; rw [c14b0]) | skip)
                      by_cases c15 : (IntKind.u64.wrap (bt s0_0 (ji8))) > 1
                      · rw [if_pos c15] at H
                        have c15b0 : decide (1 < (IntKind.u64.wrap (bt s0_0 (ji8)))) = true := decide_eq_true c15
                        clear c15
                        have H' := Aside0.mk H
                        clear H
                        go_wp2
                        repeat (go_quiet (fail); try go_wp2)
                        go_meet
                        case rel => exact ⟨_, (true), (by first | rfl | (simp; done) | (simp [*]; done)), H', ⟨by have := HK1.out; have := HJ1.out; first | omega | exact Nat.le_refl _⟩, ⟨by repeat (first | (with_reducible first | exact HI0.out | apply IsS68.alloc | apply IsS68.drewN | apply IsS68.drew | apply IsS68.set_0 | apply IsS68.set_1 | apply IsS68.set_2) | exact HI0.out)⟩, ⟨by repeat (first | (with_reducible first | exact HK.out | apply KeepBut.set_ | apply keep_drewN | apply keep_drew | apply keep_alloc) | exact HK.out)⟩, ⟨by repeat (first | (with_reducible first | exact HB.out | apply below_alloc | apply pw_below_drewN | apply below_drew1 | refine below_set ?_ (IsS68.ge HI0.out)) | exact HB.out)⟩⟩
                      · rw [if_neg c15] at H
                        have c15b0 : decide (1 < (IntKind.u64.wrap (bt s0_0 (ji8)))) = false := decide_eq_false c15
                        clear c15
                        by_cases c16 : x5_1 > 0
                        · rw [if_pos c16] at H
                          have c16b0 : decide (0 < x5_1) = true := decide_eq_true c16
                          clear c16
                          have H' := Aside0.mk H
                          clear H
                          go_wp2
                          repeat (go_quiet (fail); try go_wp2)
                          go_meet
                          case rel => exact ⟨_, (((IntKind.u64.wrap (bt s0_0 (ji8))) == 0)), (by first | rfl | (simp; done) | (simp only [← hji8] <;> (first | rfl | simp)) | (simp [*]; done)), H', ⟨by have := HK1.out; have := HJ1.out; first | omega | exact Nat.le_refl _⟩, ⟨by repeat (first | (with_reducible first | exact HI0.out | apply IsS68.alloc | apply IsS68.drewN | apply IsS68.drew | apply IsS68.set_0 | apply IsS68.set_1 | apply IsS68.set_2) | exact HI0.out)⟩, ⟨by repeat (first | (with_reducible first | exact HK.out | apply KeepBut.set_ | apply keep_drewN | apply keep_drew | apply keep_alloc) | exact HK.out)⟩, ⟨by repeat (first | (with_reducible first | exact HB.out | apply below_alloc | apply pw_below_drewN | apply below_drew1 | refine below_set ?_ (IsS68.ge HI0.out)) | exact HB.out)⟩⟩
                        · rw [if_neg c16] at H
                          have c16b0 : decide (0 < x5_1) = false := decide_eq_false c16
                          clear c16
                          have H' := Aside0.mk H
                          clear H
                          go_wp2
                          repeat (go_quiet (fail); try go_wp2)
                          go_meet
                          case rel => exact ⟨_, (false), (by first | rfl | (simp; done) | (simp [*]; done)), H', ⟨by have := HK1.out; have := HJ1.out; first | omega | exact Nat.le_refl _⟩, ⟨by repeat (first | (with_reducible first | exact HI0.out | apply IsS68.alloc | apply IsS68.drewN | apply IsS68.drew | apply IsS68.set_0 | apply IsS68.set_1 | apply IsS68.set_2) | exact HI0.out)⟩, ⟨by repeat (first | (with_reducible first | exact HK.out | apply KeepBut.set_ | apply keep_drewN | apply keep_drew | apply keep_alloc) | exact HK.out)⟩, ⟨by repeat (first | (with_reducible first | exact HB.out | apply below_alloc | apply pw_below_drewN | apply below_drew1 | refine below_set ?_ (IsS68.ge HI0.out)) | exact HB.out)⟩⟩
                    · rw [if_neg c14] at H
                      have c14b0 : (x5_1 == 9) = false := beq_eq_false_iff_ne.mpr c14
                      have c14b1 : (x5_1 != 9) = true := bne_iff_ne.mpr c14
                      (first | rw [c14b0] | (simp only [i64_w, i32_w]; rw [c14b0]) | skip)
                      by_cases c17 : x5_1 > 0
                      · rw [if_pos c17] at H
                        have c17b0 : decide (0 < x5_1) = true := decide_eq_true c17
                        clear c17
                        have H' := Aside0.mk H
                        clear H
                        go_wp2
                        repeat (go_quiet (fail); try go_wp2)
                        go_meet
                        case rel => exact ⟨_, (((IntKind.u64.wrap (bt s0_0 (ji8))) == 0)), (by first | rfl | (simp; done) | (simp only [← hji8] <;> (first | rfl | simp)) | (simp [*]; done)), H', ⟨by have := HK1.out; have := HJ1.out; first | omega | exact Nat.le_refl _⟩, ⟨by repeat (first | (with_reducible first | exact HI0.out | apply IsS68.alloc | apply IsS68.drewN | apply IsS68.drew | apply IsS68.set_0 | apply IsS68.set_1 | apply IsS68.set_2) | exact HI0.out)⟩, ⟨by repeat (first | (with_reducible first | exact HK.out | apply KeepBut.set_ | apply keep_drewN | apply keep_drew | apply keep_alloc) | exact HK.out)⟩, ⟨by repeat (first | (with_reducible first | exact HB.out | apply below_alloc | apply pw_below_drewN | apply below_drew1 | refine below_set ?_ (IsS68.ge HI0.out)) | exact HB.out)⟩⟩
                      · rw [if_neg c17] at H
                        have c17b0 : decide (0 < x5_1) = false := decide_eq_false c17
                        clear c17
                        have H' := Aside0.mk H
                        clear H
                        go_wp2
                        repeat (go_quiet (fail); try go_wp2)
                        go_meet
                        case rel => exact ⟨_, (false), (by first | rfl | (simp; done) | (simp [*]; done)), H', ⟨by have := HK1.out; have := HJ1.out; first | omega | exact Nat.le_refl _⟩, ⟨by repeat (first | (with_reducible first | exact HI0.out | apply IsS68.alloc | apply IsS68.drewN | apply IsS68.drew | apply IsS68.set_0 | apply IsS68.set_1 | apply IsS68.set_2) | exact HI0.out)⟩, ⟨by repeat (first | (with_reducible first | exact HK.out | apply KeepBut.set_ | apply keep_drewN | apply keep_drew | apply keep_alloc) | exact HK.out)⟩, ⟨by repeat (first | (with_reducible first | exact HB.out | apply below_alloc | apply pw_below_drewN | apply below_drew1 | refine below_set ?_ (IsS68.ge HI0.out)) | exact HB.out)⟩⟩
                  case rest =>
                    clear HC12
                    try clear c1
                    try clear p1
                    try clear q1
                    try clear hx1
                    try clear p2
                    try clear c3
                    try clear c3b0
                    try clear c5
                    try clear c6
                    try clear c6b0
                    try clear p6
                    try clear c9
                    try clear c9b0
                    try clear c10
                    try clear c10b0
                    try clear p11
                    try clear q11
                    try clear hx11
                    try clear c14
                    try clear c14b0
                    try clear c14b1
                    try clear c15
                    try clear c15b0
                    try clear c16
                    try clear c16b0
                    try clear c17
                    try clear c17b0
                    try clear hcz13_0
                    try clear hcz13_1
                    try clear hcz13_2
                    try clear hcz4_0
                    try clear hcz4_1
                    try clear hcz4_2
                    try clear hcz7_0
                    try clear hcz7_1
                    try clear hcz7_2
                    try clear hfz13_0
                    try clear hfz13_1
                    try clear hfz13_2
                    try clear hfz4_0
                    try clear hfz4_1
                    try clear hfz4_2
                    try clear hfz7_0
                    try clear hfz7_1
                    try clear hfz7_2
                    try clear p11
                    try clear p2
                    try clear q11
                    obtain ⟨kq, x58_11, rfl, HA, HJ11, HI0, HK, HB⟩ := hcut
                    cases kq with
                    | zero => exact absurd HA.out (by simp [bonsairef03_Reader_Num.j2])
                    | succ kj11 =>
                      have H := HA.out
                      clear HA
                      simp only [bonsairef03_Reader_Num.j2] at H
                      by_cases c18 : x58_11 = true
                      · subst c18
                        have H1 : (some (0, s0_0, x1001_1, 3)) = some (r1, r2, r3, r4) := by rw [if_pos rfl] at H; exact H
                        clear H
                        have H := H1
                        clear H1
                        simp only [Option.some.injEq, Prod.mk.injEq] at H
                        obtain ⟨rfl, rfl, rfl, rfl⟩ := H
                        obtain ⟨HGz19, hgz19⟩ := HI0.out
                        have hcz19_0 := cellS68_0 HGz19
                        have hcz19_1 := cellS68_1 HGz19
                        have hcz19_2 := cellS68_2 HGz19
                        have hfz19_0 := blk_frozen HGz19 0
                        have hfz19_1 := blk_frozen HGz19 1
                        have hfz19_2 := blk_frozen HGz19 2
                        clear HGz19 hgz19
                        go_wp2
                        repeat (go_quiet (fail); try go_wp2)
                        go_ret
                        (try simp only [hji8])
                        exact ⟨by first | rfl | (simp [errW_none, errW_some] <;> rfl) | (simp only [← hji8]; first | rfl | (simp [errW_none, errW_some] <;> rfl)) | (simp [*, errW_none, errW_some] <;> rfl), by repeat (first | (with_reducible first | exact HI0.out | apply IsS68.alloc | apply IsS68.drewN | apply IsS68.drew | apply IsS68.set_0 | apply IsS68.set_1 | apply IsS68.set_2) | exact HI0.out), by repeat (first | (with_reducible first | exact HB.out | apply below_alloc | apply pw_below_drewN | apply below_drew1 | refine below_set ?_ (IsS68.ge HI0.out)) | exact HB.out), by repeat (first | (with_reducible first | exact HK.out | apply KeepBut.set_ | apply keep_drewN | apply keep_drew | apply keep_alloc) | exact HK.out)⟩
                      · replace c18 := Bool.eq_false_iff.mpr c18
                        subst c18
                        have H1 : (if (IntKind.u64.wrap (bt s0_0 (ji8))) < 128 then (some (IntKind.u64.wrap (x3_1 + (IntKind.u64.wrap ((Int.tmod (IntKind.u64.wrap (bt s0_0 (ji8))) 128) * x4_1))), s0_0, wrap64 ((wrap64 (x1001_1 + x5_1)) + 1), x1002_1)) else (bonsairef03_Reader_Num.l0 kj11 (IntKind.u64.wrap (x3_1 + (IntKind.u64.wrap ((Int.tmod (IntKind.u64.wrap (bt s0_0 (ji8))) 128) * x4_1)))) (IntKind.u64.wrap (x4_1 * 128)) (wrap64 (x5_1 + 1)) s0_0 x1001_1 x1002_1)) = some (r1, r2, r3, r4) := by rw [if_neg (show ¬ (false = true) by decide)] at H; exact H
                        clear H
                        have H := H1
                        clear H1
                        by_cases c20 : (IntKind.u64.wrap (bt s0_0 (ji8))) < 128
                        · rw [if_pos c20] at H
                          have c20b0 : decide ((IntKind.u64.wrap (bt s0_0 (ji8))) < 128) = true := decide_eq_true c20
                          clear c20
                          simp only [Option.some.injEq, Prod.mk.injEq] at H
                          obtain ⟨rfl, rfl, rfl, rfl⟩ := H
                          obtain ⟨HGz21, hgz21⟩ := HI0.out
                          have hcz21_0 := cellS68_0 HGz21
                          have hcz21_1 := cellS68_1 HGz21
                          have hcz21_2 := cellS68_2 HGz21
                          have hfz21_0 := blk_frozen HGz21 0
                          have hfz21_1 := blk_frozen HGz21 1
                          have hfz21_2 := blk_frozen HGz21 2
                          clear HGz21 hgz21
                          go_wp2
                          repeat (go_quiet (fail); try go_wp2)
                          go_ret
                          (try simp only [hji8])
                          exact ⟨by first | rfl | (simp [errW_none, errW_some] <;> rfl) | (simp only [← hji8]; first | rfl | (simp [errW_none, errW_some] <;> rfl)) | (simp [*, errW_none, errW_some] <;> rfl), by repeat (first | (with_reducible first | exact HI0.out | apply IsS68.alloc | apply IsS68.drewN | apply IsS68.drew | apply IsS68.set_0 | apply IsS68.set_1 | apply IsS68.set_2) | exact HI0.out), by repeat (first | (with_reducible first | exact HB.out | apply below_alloc | apply pw_below_drewN | apply below_drew1 | refine below_set ?_ (IsS68.ge HI0.out)) | exact HB.out), by repeat (first | (with_reducible first | exact HK.out | apply KeepBut.set_ | apply keep_drewN | apply keep_drew | apply keep_alloc) | exact HK.out)⟩
                        · rw [if_neg c20] at H
                          have c20b0 : decide ((IntKind.u64.wrap (bt s0_0 (ji8))) < 128) = false := decide_eq_false c20
                          clear c20
                          have H' := Aside0.mk H
                          clear H
                          go_wp2
                          repeat (go_quiet (fail); try go_wp2)
                          go_roundg kj11
                          case measure => have := HK1.out; have := HJ1.out; have := HJ11.out; omega
                          case rel => exact ⟨(IntKind.u64.wrap (x3_1 + (IntKind.u64.wrap ((Int.tmod (IntKind.u64.wrap (bt s0_0 (ji8))) 128) * x4_1)))), (IntKind.u64.wrap (x4_1 * 128)), (wrap64 (x5_1 + 1)), (x1001_1), (x1002_1), (by first | rfl | (simp; done) | (simp only [← hji8] <;> (first | rfl | simp)) | (simp [*]; done)), (by first | rfl | (simp; done) | (simp [*]; done)), (by first | rfl | (simp; done) | (simp [*]; done)), H', ⟨by have := HK1.out; have := HJ1.out; have := HJ11.out; omega⟩, ⟨by repeat (first | (with_reducible first | exact HI0.out | apply IsS68.alloc | apply IsS68.drewN | apply IsS68.drew | apply IsS68.set_0 | apply IsS68.set_1 | apply IsS68.set_2) | exact HI0.out)⟩, ⟨by repeat (first | (with_reducible first | exact HK.out | apply KeepBut.set_ | apply keep_drewN | apply keep_drew | apply keep_alloc) | exact HK.out)⟩, ⟨by repeat (first | (with_reducible first | exact HB.out | apply below_alloc | apply pw_below_drewN | apply below_drew1 | refine below_set ?_ (IsS68.ge HI0.out)) | exact HB.out)⟩⟩
                · rw [if_neg c10] at H
                  exact absurd H (by simp)
              · rw [if_neg c9] at H
                exact absurd H (by simp)
          · replace c5 := Bool.eq_false_iff.mpr c5
            subst c5
            have H1 : (some (0, s0_0, x1001_1, x1002_1)) = some (r1, r2, r3, r4) := by rw [if_neg (show ¬ (false = true) by decide)] at H; exact H
            clear H
            have H := H1
            clear H1
            simp only [Option.some.injEq, Prod.mk.injEq] at H
            obtain ⟨rfl, rfl, rfl, rfl⟩ := H
            go_wp2
            repeat (go_quiet (fail); try go_wp2)
            go_ret
            exact ⟨by first | rfl | (simp [errW_none, errW_some] <;> rfl) | (simp [*, errW_none, errW_some] <;> rfl), by repeat (first | (with_reducible first | exact HI0.out | apply IsS68.alloc | apply IsS68.drewN | apply IsS68.drew | apply IsS68.set_0 | apply IsS68.set_1 | apply IsS68.set_2) | exact HI0.out), by repeat (first | (with_reducible first | exact HB.out | apply below_alloc | apply pw_below_drewN | apply below_drew1 | refine below_set ?_ (IsS68.ge HI0.out)) | exact HB.out), by repeat (first | (with_reducible first | exact HK.out | apply KeepBut.set_ | apply keep_drewN | apply keep_drew | apply keep_alloc) | exact HK.out)⟩
def bonsairef03_Reader_Left.f (s0_0 : ByteArray) (s0_1 : Int) (s0_2 : Int) : Option (Int × ByteArray × Int × Int) := some (wrap64 ((s0_0.size : Int) - s0_1), s0_0, s0_1, s0_2)
set_option maxHeartbeats 8000000 in
set_option maxRecDepth 100000 in
theorem bonsairef03_Reader_Left.calls (g : Nat) (s0_0 : ByteArray) (s0_1 : Int) (s0_2 : Int) (r1 : Int) (r2 : ByteArray) (r3 : Int) (r4 : Int) (w0 w : World) (hI : IsS68 w0 w g s0_0 s0_1 s0_2) (hB : Below w0.heap.size w0 w) (h : bonsairef03_Reader_Left.f s0_0 s0_1 s0_2 = some (r1, r2, r3, r4)) :
    Calls Try.prog 43 #[.pointer (some ⟨g, 0, none⟩)] w fun e w' => e = .returned (.int .i64 r1) ∧ IsS68 w0 w' g r2 r3 r4 ∧ Below w0.heap.size w0 w' ∧ KeepBut w w' g none := by
  have HI0 := Aside0.mk hI
  have HK := Aside0.mk (KeepBut.refl w g none)
  have HL := Aside0.mk hB.size
  clear hI
  have HW0 := Aside0.mk hB.size
  have HB := Aside0.mk hB
  clear hB
  have H : (some (wrap64 ((s0_0.size : Int) - s0_1), s0_0, s0_1, s0_2)) = some (r1, r2, r3, r4) := h
  clear h
  simp only [Option.some.injEq, Prod.mk.injEq] at H
  obtain ⟨rfl, rfl, rfl, rfl⟩ := H
  obtain ⟨HGz2, hgz2⟩ := HI0.out
  have hcz2_0 := cellS68_0 HGz2
  have hcz2_1 := cellS68_1 HGz2
  have hcz2_2 := cellS68_2 HGz2
  have hfz2_0 := blk_frozen HGz2 0
  have hfz2_1 := blk_frozen HGz2 1
  have hfz2_2 := blk_frozen HGz2 2
  clear HGz2 hgz2
  go_enter Try.func43, Try.ntmps43
  go_wp2
  repeat (go_quiet (fail); try go_wp2)
  go_ret
  exact ⟨by first | rfl | (simp [errW_none, errW_some] <;> rfl) | (simp [*, errW_none, errW_some] <;> rfl), by repeat (first | (with_reducible first | exact HI0.out | apply IsS68.alloc | apply IsS68.drewN | apply IsS68.drew | apply IsS68.set_0 | apply IsS68.set_1 | apply IsS68.set_2) | exact HI0.out), by repeat (first | (with_reducible first | exact HB.out | apply below_alloc | apply pw_below_drewN | apply below_drew1 | refine below_set ?_ (IsS68.ge HI0.out)) | exact HB.out), by repeat (first | (with_reducible first | exact HK.out | apply KeepBut.set_ | apply keep_drewN | apply keep_drew | apply keep_alloc) | exact HK.out)⟩
def bonsairef03_Reader_Take.j0 : Nat → Int → Bool → ByteArray → Int → Int → Option (ByteArray × ByteArray × Int × Int)
  | 0, _, _, _, _, _ => none
  | k + 1, x1, x27, x1000, x1001, x1002 => if x27 = true then (some ((⟨#[]⟩ : ByteArray), x1000, x1001, 2)) else (if x1002 = 0 then (if 0 ≤ (wrap64 ((wrap64 (x1001 + x1)) - x1)) then (if (wrap64 ((wrap64 (x1001 + x1)) - x1)) ≤ (wrap64 (x1001 + x1)) then (if (wrap64 (x1001 + x1)) ≤ (x1000.size : Int) then (some (x1000.extract ((wrap64 ((wrap64 (x1001 + x1)) - x1)) : Int).toNat ((wrap64 (x1001 + x1)) : Int).toNat, x1000, wrap64 (x1001 + x1), x1002)) else (none)) else (none)) else (none)) else (some ((⟨#[]⟩ : ByteArray), x1000, x1001, x1002)))
def bonsairef03_Reader_Take.f (k : Nat) (s0_0 : ByteArray) (s0_1 : Int) (s0_2 : Int) (a1 : Int) : Option (ByteArray × ByteArray × Int × Int) := if s0_2 = 0 then (if a1 < 0 then (bonsairef03_Reader_Take.j0 k a1 true s0_0 s0_1 s0_2) else (bonsairef03_Reader_Take.j0 k a1 (decide (a1 > (wrap64 ((s0_0.size : Int) - s0_1)))) s0_0 s0_1 s0_2)) else (bonsairef03_Reader_Take.j0 k a1 false s0_0 s0_1 s0_2)
set_option maxHeartbeats 8000000 in
set_option maxRecDepth 100000 in
theorem bonsairef03_Reader_Take.calls (k : Nat) (g : Nat) (s0_0 : ByteArray) (s0_1 : Int) (s0_2 : Int) (a1 : Int) (r1 : ByteArray) (r2 : ByteArray) (r3 : Int) (r4 : Int) (w0 w : World) (hI : IsS68 w0 w g s0_0 s0_1 s0_2) (hB : Below w0.heap.size w0 w) (h : bonsairef03_Reader_Take.f k s0_0 s0_1 s0_2 a1 = some (r1, r2, r3, r4)) :
    Calls Try.prog 70 #[.pointer (some ⟨g, 0, none⟩), .int .i64 a1] w fun e w' => e = .returned (.string r1) ∧ IsS68 w0 w' g r2 r3 r4 ∧ Below w0.heap.size w0 w' ∧ KeepBut w w' g none := by
  have HI0 := Aside0.mk hI
  have HK := Aside0.mk (KeepBut.refl w g none)
  have HL := Aside0.mk hB.size
  clear hI
  have HW0 := Aside0.mk hB.size
  have HB := Aside0.mk hB
  clear hB
  have H : (if s0_2 = 0 then (if a1 < 0 then (bonsairef03_Reader_Take.j0 k a1 true s0_0 s0_1 s0_2) else (bonsairef03_Reader_Take.j0 k a1 (decide (a1 > (wrap64 ((s0_0.size : Int) - s0_1)))) s0_0 s0_1 s0_2)) else (bonsairef03_Reader_Take.j0 k a1 false s0_0 s0_1 s0_2)) = some (r1, r2, r3, r4) := h
  clear h
  have HC3 := Aside0.mk H
  clear H
  go_enter Try.func70, Try.ntmps70
  go_upto_region 1 with (fail)
  repeat (go_quiet (fail); go_upto_region 1 with (fail))
  go_cut [27] (fun v27 wc => ∃ (kq : Nat) (x27_2 : Bool), v27 = .bool x27_2 ∧ Aside0 (bonsairef03_Reader_Take.j0 kq a1 x27_2 s0_0 s0_1 s0_2 = some (r1, r2, r3, r4)) ∧ Aside0 (kq ≤ k) ∧ Aside0 (IsS68 w0 wc g s0_0 s0_1 s0_2) ∧ Aside0 (KeepBut w wc g none) ∧ Aside0 (Below w0.heap.size w0 wc))
  case first =>
    have H := HC3.out
    clear HC3
    by_cases c4 : s0_2 = 0
    · rw [if_pos c4] at H
      have c4b0 : (s0_2 == 0) = true := beq_iff_eq.mpr c4
      have c4b1 : (s0_2 != 0) = false := bne_eq_false_iff_eq.mpr c4
      clear c4
      (first | rw [c4b0] | (simp only [i64_w, i32_w]; rw [c4b0]) | skip)
      by_cases c5 : a1 < 0
      · rw [if_pos c5] at H
        have c5b0 : decide (a1 < 0) = true := decide_eq_true c5
        clear c5
        have H' := Aside0.mk H
        clear H
        obtain ⟨HGz6, hgz6⟩ := HI0.out
        have hcz6_0 := cellS68_0 HGz6
        have hcz6_1 := cellS68_1 HGz6
        have hcz6_2 := cellS68_2 HGz6
        have hfz6_0 := blk_frozen HGz6 0
        have hfz6_1 := blk_frozen HGz6 1
        have hfz6_2 := blk_frozen HGz6 2
        clear HGz6 hgz6
        go_wp2
        repeat (go_quiet (fail); try go_wp2)
        go_meet
        case rel => exact ⟨_, (true), (by first | rfl | (simp; done) | (simp [*]; done)), H', ⟨by first | omega | exact Nat.le_refl _⟩, ⟨by repeat (first | (with_reducible first | exact HI0.out | apply IsS68.alloc | apply IsS68.drewN | apply IsS68.drew | apply IsS68.set_0 | apply IsS68.set_1 | apply IsS68.set_2) | exact HI0.out)⟩, ⟨by repeat (first | (with_reducible first | exact HK.out | apply KeepBut.set_ | apply keep_drewN | apply keep_drew | apply keep_alloc) | exact HK.out)⟩, ⟨by repeat (first | (with_reducible first | exact HB.out | apply below_alloc | apply pw_below_drewN | apply below_drew1 | refine below_set ?_ (IsS68.ge HI0.out)) | exact HB.out)⟩⟩
      · rw [if_neg c5] at H
        have c5b0 : decide (a1 < 0) = false := decide_eq_false c5
        clear c5
        have H' := Aside0.mk H
        clear H
        obtain ⟨HGz7, hgz7⟩ := HI0.out
        have hcz7_0 := cellS68_0 HGz7
        have hcz7_1 := cellS68_1 HGz7
        have hcz7_2 := cellS68_2 HGz7
        have hfz7_0 := blk_frozen HGz7 0
        have hfz7_1 := blk_frozen HGz7 1
        have hfz7_2 := blk_frozen HGz7 2
        clear HGz7 hgz7
        go_wp2
        repeat (go_quiet (fail); try go_wp2)
        go_meet
        case rel => exact ⟨_, (decide (a1 > (wrap64 ((s0_0.size : Int) - s0_1)))), (by first | rfl | (simp; done) | (simp [*]; done)), H', ⟨by first | omega | exact Nat.le_refl _⟩, ⟨by repeat (first | (with_reducible first | exact HI0.out | apply IsS68.alloc | apply IsS68.drewN | apply IsS68.drew | apply IsS68.set_0 | apply IsS68.set_1 | apply IsS68.set_2) | exact HI0.out)⟩, ⟨by repeat (first | (with_reducible first | exact HK.out | apply KeepBut.set_ | apply keep_drewN | apply keep_drew | apply keep_alloc) | exact HK.out)⟩, ⟨by repeat (first | (with_reducible first | exact HB.out | apply below_alloc | apply pw_below_drewN | apply below_drew1 | refine below_set ?_ (IsS68.ge HI0.out)) | exact HB.out)⟩⟩
    · rw [if_neg c4] at H
      have c4b0 : (s0_2 == 0) = false := beq_eq_false_iff_ne.mpr c4
      have c4b1 : (s0_2 != 0) = true := bne_iff_ne.mpr c4
      (first | rw [c4b0] | (simp only [i64_w, i32_w]; rw [c4b0]) | skip)
      have H' := Aside0.mk H
      clear H
      obtain ⟨HGz8, hgz8⟩ := HI0.out
      have hcz8_0 := cellS68_0 HGz8
      have hcz8_1 := cellS68_1 HGz8
      have hcz8_2 := cellS68_2 HGz8
      have hfz8_0 := blk_frozen HGz8 0
      have hfz8_1 := blk_frozen HGz8 1
      have hfz8_2 := blk_frozen HGz8 2
      clear HGz8 hgz8
      go_wp2
      repeat (go_quiet (fail); try go_wp2)
      go_meet
      case rel => exact ⟨_, (false), (by first | rfl | (simp; done) | (simp [*]; done)), H', ⟨by first | omega | exact Nat.le_refl _⟩, ⟨by repeat (first | (with_reducible first | exact HI0.out | apply IsS68.alloc | apply IsS68.drewN | apply IsS68.drew | apply IsS68.set_0 | apply IsS68.set_1 | apply IsS68.set_2) | exact HI0.out)⟩, ⟨by repeat (first | (with_reducible first | exact HK.out | apply KeepBut.set_ | apply keep_drewN | apply keep_drew | apply keep_alloc) | exact HK.out)⟩, ⟨by repeat (first | (with_reducible first | exact HB.out | apply below_alloc | apply pw_below_drewN | apply below_drew1 | refine below_set ?_ (IsS68.ge HI0.out)) | exact HB.out)⟩⟩
  case rest =>
    clear HC3
    try clear p2
    try clear c4
    try clear c4b0
    try clear c4b1
    try clear c5
    try clear c5b0
    try clear p6
    try clear c7
    try clear hcz6_0
    try clear hcz6_1
    try clear hcz6_2
    try clear hcz7_0
    try clear hcz7_1
    try clear hcz7_2
    try clear hcz8_0
    try clear hcz8_1
    try clear hcz8_2
    try clear hfz6_0
    try clear hfz6_1
    try clear hfz6_2
    try clear hfz7_0
    try clear hfz7_1
    try clear hfz7_2
    try clear hfz8_0
    try clear hfz8_1
    try clear hfz8_2
    obtain ⟨kq, x27_2, rfl, HA, HJ2, HI0, HK, HB⟩ := hcut
    cases kq with
    | zero => exact absurd HA.out (by simp [bonsairef03_Reader_Take.j0])
    | succ kj2 =>
      have H := HA.out
      clear HA
      simp only [bonsairef03_Reader_Take.j0] at H
      by_cases c9 : x27_2 = true
      · subst c9
        have H1 : (some ((⟨#[]⟩ : ByteArray), s0_0, s0_1, 2)) = some (r1, r2, r3, r4) := by rw [if_pos rfl] at H; exact H
        clear H
        have H := H1
        clear H1
        simp only [Option.some.injEq, Prod.mk.injEq] at H
        obtain ⟨rfl, rfl, rfl, rfl⟩ := H
        obtain ⟨HGz10, hgz10⟩ := HI0.out
        have hcz10_0 := cellS68_0 HGz10
        have hcz10_1 := cellS68_1 HGz10
        have hcz10_2 := cellS68_2 HGz10
        have hfz10_0 := blk_frozen HGz10 0
        have hfz10_1 := blk_frozen HGz10 1
        have hfz10_2 := blk_frozen HGz10 2
        clear HGz10 hgz10
        go_wp2
        repeat (go_quiet (fail); try go_wp2)
        go_ret
        exact ⟨by first | rfl | (simp [errW_none, errW_some] <;> rfl) | (simp [*, errW_none, errW_some] <;> rfl), by repeat (first | (with_reducible first | exact HI0.out | apply IsS68.alloc | apply IsS68.drewN | apply IsS68.drew | apply IsS68.set_0 | apply IsS68.set_1 | apply IsS68.set_2) | exact HI0.out), by repeat (first | (with_reducible first | exact HB.out | apply below_alloc | apply pw_below_drewN | apply below_drew1 | refine below_set ?_ (IsS68.ge HI0.out)) | exact HB.out), by repeat (first | (with_reducible first | exact HK.out | apply KeepBut.set_ | apply keep_drewN | apply keep_drew | apply keep_alloc) | exact HK.out)⟩
      · replace c9 := Bool.eq_false_iff.mpr c9
        subst c9
        have H1 : (if s0_2 = 0 then (if 0 ≤ (wrap64 ((wrap64 (s0_1 + a1)) - a1)) then (if (wrap64 ((wrap64 (s0_1 + a1)) - a1)) ≤ (wrap64 (s0_1 + a1)) then (if (wrap64 (s0_1 + a1)) ≤ (s0_0.size : Int) then (some (s0_0.extract ((wrap64 ((wrap64 (s0_1 + a1)) - a1)) : Int).toNat ((wrap64 (s0_1 + a1)) : Int).toNat, s0_0, wrap64 (s0_1 + a1), s0_2)) else (none)) else (none)) else (none)) else (some ((⟨#[]⟩ : ByteArray), s0_0, s0_1, s0_2))) = some (r1, r2, r3, r4) := by rw [if_neg (show ¬ (false = true) by decide)] at H; exact H
        clear H
        have H := H1
        clear H1
        by_cases c11 : s0_2 = 0
        · rw [if_pos c11] at H
          have c11b0 : (s0_2 == 0) = true := beq_iff_eq.mpr c11
          have c11b1 : (s0_2 != 0) = false := bne_eq_false_iff_eq.mpr c11
          clear c11
          obtain ⟨ji12, hji12⟩ : ∃ j_ : Int, (wrap64 ((wrap64 (s0_1 + a1)) - a1)) = j_ := ⟨_, rfl⟩
          replace H : (if 0 ≤ (ji12) then (if (ji12) ≤ (wrap64 (s0_1 + a1)) then (if (wrap64 (s0_1 + a1)) ≤ (s0_0.size : Int) then (some (s0_0.extract ((ji12) : Int).toNat ((wrap64 (s0_1 + a1)) : Int).toNat, s0_0, wrap64 (s0_1 + a1), s0_2)) else (none)) else (none)) else (none)) = some (r1, r2, r3, r4) := by first | (rw [hji12] at H; exact H) | (simp only [hji12] at H ⊢; exact H)
          have hji12w : (IntKind.i64.wrap ((wrap64 (s0_1 + a1)) - a1)) = ji12 := (i64_w _).trans hji12
          by_cases c13 : 0 ≤ (ji12)
          · rw [if_pos c13] at H
            have c13b0 := eq_true c13
            have c13b1 : decide (0 ≤ (ji12)) = true := decide_eq_true c13
            clear c13
            by_cases c14 : (ji12) ≤ (wrap64 (s0_1 + a1))
            · rw [if_pos c14] at H
              have c14b0 := eq_true c14
              have c14b1 : decide ((ji12) ≤ (wrap64 (s0_1 + a1))) = true := decide_eq_true c14
              by_cases c15 : (wrap64 (s0_1 + a1)) ≤ (s0_0.size : Int)
              · rw [if_pos c15] at H
                have c15b0 := eq_true c15
                have c15b1 : decide ((wrap64 (s0_1 + a1)) ≤ (s0_0.size : Int)) = true := decide_eq_true c15
                simp only [Option.some.injEq, Prod.mk.injEq] at H
                obtain ⟨rfl, rfl, rfl, rfl⟩ := H
                obtain ⟨HGz16, hgz16⟩ := HI0.out
                have hcz16_0 := cellS68_0 HGz16
                have hcz16_1 := cellS68_1 HGz16
                have hcz16_2 := cellS68_2 HGz16
                have hfz16_0 := blk_frozen HGz16 0
                have hfz16_1 := blk_frozen HGz16 1
                have hfz16_2 := blk_frozen HGz16 2
                clear HGz16 hgz16
                go_wp2
                repeat (go_quiet (fail); try go_wp2)
                go_ret
                (try simp only [hji12])
                exact ⟨by first | rfl | (simp [errW_none, errW_some] <;> rfl) | (simp only [← hji12]; first | rfl | (simp [errW_none, errW_some] <;> rfl)) | (simp [*, errW_none, errW_some] <;> rfl), by repeat (first | (with_reducible first | exact HI0.out | apply IsS68.alloc | apply IsS68.drewN | apply IsS68.drew | apply IsS68.set_0 | apply IsS68.set_1 | apply IsS68.set_2) | exact HI0.out), by repeat (first | (with_reducible first | exact HB.out | apply below_alloc | apply pw_below_drewN | apply below_drew1 | refine below_set ?_ (IsS68.ge HI0.out)) | exact HB.out), by repeat (first | (with_reducible first | exact HK.out | apply KeepBut.set_ | apply keep_drewN | apply keep_drew | apply keep_alloc) | exact HK.out)⟩
              · rw [if_neg c15] at H
                exact absurd H (by simp)
            · rw [if_neg c14] at H
              exact absurd H (by simp)
          · rw [if_neg c13] at H
            exact absurd H (by simp)
        · rw [if_neg c11] at H
          have c11b0 : (s0_2 == 0) = false := beq_eq_false_iff_ne.mpr c11
          have c11b1 : (s0_2 != 0) = true := bne_iff_ne.mpr c11
          simp only [Option.some.injEq, Prod.mk.injEq] at H
          obtain ⟨rfl, rfl, rfl, rfl⟩ := H
          obtain ⟨HGz17, hgz17⟩ := HI0.out
          have hcz17_0 := cellS68_0 HGz17
          have hcz17_1 := cellS68_1 HGz17
          have hcz17_2 := cellS68_2 HGz17
          have hfz17_0 := blk_frozen HGz17 0
          have hfz17_1 := blk_frozen HGz17 1
          have hfz17_2 := blk_frozen HGz17 2
          clear HGz17 hgz17
          go_wp2
          repeat (go_quiet (fail); try go_wp2)
          go_ret
          exact ⟨by first | rfl | (simp [errW_none, errW_some] <;> rfl) | (simp [*, errW_none, errW_some] <;> rfl), by repeat (first | (with_reducible first | exact HI0.out | apply IsS68.alloc | apply IsS68.drewN | apply IsS68.drew | apply IsS68.set_0 | apply IsS68.set_1 | apply IsS68.set_2) | exact HI0.out), by repeat (first | (with_reducible first | exact HB.out | apply below_alloc | apply pw_below_drewN | apply below_drew1 | refine below_set ?_ (IsS68.ge HI0.out)) | exact HB.out), by repeat (first | (with_reducible first | exact HK.out | apply KeepBut.set_ | apply keep_drewN | apply keep_drew | apply keep_alloc) | exact HK.out)⟩
end Go.Proofs.Ytfgnjndfnijjoaa.Print
end
section
namespace Go.Proofs.Ytfgnjndfnijjoaa.Print
open Go.RowKit Go.Proofs.YtfgnjndfnijjoaaW.PrintWords Go.Proofs.YtfgnjndfnijjoaaW.PrintLast Go.Proofs.YtfgnjndfnijjoaaW.PrintMore
attribute [local go_sem] max2_int min2_int max_two min_two max_three min_three max_four min_four
attribute [local go_sem] run_store_float
set_option linter.unusedVariables false
set_option linter.unusedSimpArgs false
mutual
def bonsairef04_Take.j0 : Nat → ByteArray → Int → Int → Bool → Option (ByteArray × Int × Int)
  | 0, _, _, _, _ => none
  | k + 1, x0, x1, x2, x19 => if x19 = true then (some ((⟨#[]⟩ : ByteArray), 0, 1)) else ((bonsairef03_Reader_Num.f k x0 x1 0).bind fun bt290 => (if bt290.2.2.2 = 0 then (if x2 < 0 then (bonsairef04_Take.j1 k bt290.1 true bt290.2.1 bt290.2.2.1 bt290.2.2.2) else (bonsairef04_Take.j1 k bt290.1 (decide (bt290.1 > (IntKind.u64.wrap (x2)))) bt290.2.1 bt290.2.2.1 bt290.2.2.2)) else (some ((⟨#[]⟩ : ByteArray), 0, bt290.2.2.2))))
def bonsairef04_Take.j1 : Nat → Int → Bool → ByteArray → Int → Int → Option (ByteArray × Int × Int)
  | 0, _, _, _, _, _ => none
  | k + 1, x10, x42, x290000, x290001, x290002 => if x42 = true then (some ((⟨#[]⟩ : ByteArray), 0, 10)) else ((bonsairef03_Reader_Left.f x290000 x290001 x290002).bind fun bt294 => (if x10 > (IntKind.u64.wrap (bt294.1)) then (some ((⟨#[]⟩ : ByteArray), 0, 2)) else ((bonsairef03_Reader_Take.f k bt294.2.1 bt294.2.2.1 bt294.2.2.2 (wrap64 (x10))).bind fun bt298 => ((bonsairef04_Valid.f k bt298.1).bind fun t302 => (if t302 = true then (some (bt298.1, bt298.2.2.1, 0)) else (some ((⟨#[]⟩ : ByteArray), 0, 4)))))))
end
def bonsairef04_Take.f (k : Nat) (a0 : ByteArray) (a1 : Int) (a2 : Int) : Option (ByteArray × Int × Int) := if a1 < 0 then (bonsairef04_Take.j0 k a0 a1 a2 true) else (bonsairef04_Take.j0 k a0 a1 a2 (decide (a1 > (a0.size : Int))))
set_option maxHeartbeats 8000000 in
set_option maxRecDepth 100000 in
theorem bonsairef04_Take.calls (k : Nat) (a0 : ByteArray) (a1 : Int) (a2 : Int) (r1 : ByteArray) (r2 : Int) (r3 : Int) (w : World) (h : bonsairef04_Take.f k a0 a1 a2 = some (r1, r2, r3)) :
    Calls Try.prog 37 #[.string a0, .int .i64 a1, .int .i64 a2] w fun e w' => e = .returned (.tuple #[.string r1, .int .i64 r2, .int .i64 r3]) ∧ Below w.heap.size w w' := by
  have hu68 := Try.underlying68
  have HB := Aside0.mk (Below.refl w.heap.size w)
  have H : (if a1 < 0 then (bonsairef04_Take.j0 k a0 a1 a2 true) else (bonsairef04_Take.j0 k a0 a1 a2 (decide (a1 > (a0.size : Int))))) = some (r1, r2, r3) := h
  clear h
  have HC4 := Aside0.mk H
  clear H
  go_enter Try.func37, Try.ntmps37
  go_upto_region 1 with (fail)
  repeat (go_quiet (fail); go_upto_region 1 with (fail))
  go_cut [19] (fun v19 wc => ∃ (kq : Nat) (x19_3 : Bool), v19 = .bool x19_3 ∧ Aside0 (bonsairef04_Take.j0 kq a0 a1 a2 x19_3 = some (r1, r2, r3)) ∧ Aside0 (kq ≤ k) ∧ Aside0 (Below w.heap.size w wc))
  case first =>
    have H := HC4.out
    clear HC4
    by_cases c5 : a1 < 0
    · rw [if_pos c5] at H
      have c5b0 : decide (a1 < 0) = true := decide_eq_true c5
      clear c5
      (first | rw [c5b0] | (simp only [i64_w, i32_w]; rw [c5b0]) | skip)
      have H' := Aside0.mk H
      clear H
      go_wp2
      repeat (go_quiet (fail); try go_wp2)
      go_meet
      case rel => exact ⟨_, (true), (by first | rfl | (simp; done) | (simp [*]; done)), H', ⟨by first | omega | exact Nat.le_refl _⟩, ⟨by repeat (first | (with_reducible first | exact HB.out | apply below_alloc | apply pw_below_drewN | apply below_drew1) | exact HB.out)⟩⟩
    · rw [if_neg c5] at H
      have c5b0 : decide (a1 < 0) = false := decide_eq_false c5
      clear c5
      (first | rw [c5b0] | (simp only [i64_w, i32_w]; rw [c5b0]) | skip)
      have H' := Aside0.mk H
      clear H
      go_wp2
      repeat (go_quiet (fail); try go_wp2)
      go_meet
      case rel => exact ⟨_, (decide (a1 > (a0.size : Int))), (by first | rfl | (simp; done) | (simp [*]; done)), H', ⟨by first | omega | exact Nat.le_refl _⟩, ⟨by repeat (first | (with_reducible first | exact HB.out | apply below_alloc | apply pw_below_drewN | apply below_drew1) | exact HB.out)⟩⟩
  case rest =>
    clear HC4
    try clear p2
    try clear c3
    try clear c5
    try clear c5b0
    obtain ⟨kq, x19_3, rfl, HA, HJ3, HB⟩ := hcut
    cases kq with
    | zero => exact absurd HA.out (by simp [bonsairef04_Take.j0])
    | succ kj3 =>
      have H := HA.out
      clear HA
      simp only [bonsairef04_Take.j0] at H
      by_cases c6 : x19_3 = true
      · subst c6
        have H1 : (some ((⟨#[]⟩ : ByteArray), 0, 1)) = some (r1, r2, r3) := by rw [if_pos rfl] at H; exact H
        clear H
        have H := H1
        clear H1
        simp only [Option.some.injEq, Prod.mk.injEq] at H
        obtain ⟨rfl, rfl, rfl⟩ := H
        go_wp2
        repeat (go_quiet (fail); try go_wp2)
        go_ret3
        exact ⟨by first | rfl | (simp [errW_none, errW_some] <;> rfl) | (simp [*, errW_none, errW_some] <;> rfl), by repeat (first | (with_reducible first | exact HB.out | apply below_alloc | apply pw_below_drewN | apply below_drew1) | exact HB.out)⟩
      · replace c6 := Bool.eq_false_iff.mpr c6
        subst c6
        have H1 : ((bonsairef03_Reader_Num.f kj3 a0 a1 0).bind fun bt290 => (if bt290.2.2.2 = 0 then (if a2 < 0 then (bonsairef04_Take.j1 kj3 bt290.1 true bt290.2.1 bt290.2.2.1 bt290.2.2.2) else (bonsairef04_Take.j1 kj3 bt290.1 (decide (bt290.1 > (IntKind.u64.wrap (a2)))) bt290.2.1 bt290.2.2.1 bt290.2.2.2)) else (some ((⟨#[]⟩ : ByteArray), 0, bt290.2.2.2)))) = some (r1, r2, r3) := by rw [if_neg (show ¬ (false = true) by decide)] at H; exact H
        clear H
        have H := H1
        clear H1
        replace H := Option.bind_eq_some_iff.mp H
        obtain ⟨⟨t290, t291, t292, t293⟩, A70, H⟩ := H
        replace H : (if t293 = 0 then (if a2 < 0 then (bonsairef04_Take.j1 kj3 t290 true t291 t292 t293) else (bonsairef04_Take.j1 kj3 t290 (decide (t290 > (IntKind.u64.wrap (a2)))) t291 t292 t293)) else (some ((⟨#[]⟩ : ByteArray), 0, t293))) = some (r1, r2, r3) := H
        have A7 := Aside0.mk A70
        clear A70
        by_cases c8 : t293 = 0
        · rw [if_pos c8] at H
          have c8b0 : (t293 == 0) = true := beq_iff_eq.mpr c8
          have c8b1 : (t293 != 0) = false := bne_eq_false_iff_eq.mpr c8
          clear c8
          have HC9 := Aside0.mk H
          clear H
          go_upto_region 7 with (first | ((with_reducible refine gate_dst (N := 23) rfl ?_); (try (refine gate_guard (by rfl) ?_; dsimp only)); refine box_event ?hg (N := 23) ?hd (cs := #[.string a0, .int .i64 a1, .int .i64 0]) (t := 68) ?hr ?_; (case hd => rfl); (case hg => rfl); (case hr => first | (go_simp; done) | (go_simp; rfl)); intro gb289 hg w10 hbox hb; have n0_ := Aside0.mk (below_step (by repeat (first | (with_reducible first | exact HB.out | apply below_alloc | apply pw_below_drewN | apply below_drew1) | exact HB.out)) hb); have n1_ := Aside0.mk ((by rw [hg]; exact (below_size (by repeat (first | (with_reducible first | exact HB.out | apply below_alloc | apply pw_below_drewN | apply below_drew1) | exact HB.out))) : w.heap.size ≤ gb289)); have n2_ := Aside0.mk ((by rw [hg]; exact (below_size (by repeat (first | (with_reducible first | exact HB.out | apply below_alloc | apply pw_below_drewN | apply below_drew1) | exact HB.out))) : w.heap.size ≤ gb289)); have n3_ := Aside0.mk ((show IsS68 w w10 gb289 a0 a1 0 from ⟨hbox, (by rw [hg]; exact (below_size (by repeat (first | (with_reducible first | exact HB.out | apply below_alloc | apply pw_below_drewN | apply below_drew1) | exact HB.out))) : w.heap.size ≤ gb289)⟩)); clear HB; have HB := n0_; have GW289 := n1_; have GE289 := n2_; have HI289 := n3_; clear n0_ n1_ n2_ n3_; clear hb hbox hg) | (go_at_call 36; (with_reducible refine (bonsairef03_Reader_Num.calls kj3 gb289 a0 a1 0 t290 t291 t292 t293 w _ ?side1 ?side2 A7.out).mono ?_); (case side1 => repeat (first | (with_reducible first | exact HI289.out | apply IsS68.alloc | apply IsS68.drewN | apply IsS68.drew | apply IsS68.set_0 | apply IsS68.set_1 | apply IsS68.set_2) | exact HI289.out)); (case side2 => repeat (first | (with_reducible first | exact HB.out | apply below_alloc | apply pw_below_drewN | apply below_drew1 | refine below_set ?_ (IsS68.ge HI289.out)) | exact HB.out)); rintro e w11 ⟨rfl, hi, hb, hk⟩; have n0_ := Aside0.mk (hb); have n1_ := Aside0.mk (hi); clear HB; clear HI289; have HB := n0_; have HI289 := n1_; clear n0_ n1_; (try clear hb); (try clear hb2); (try clear hk); (try clear hi); obtain ⟨HGz12, hgz12⟩ := HI289.out; have hcz12_0 := cellS68_0 HGz12; have hcz12_1 := cellS68_1 HGz12; have hcz12_2 := cellS68_2 HGz12; have hfz12_0 := blk_frozen HGz12 0; have hfz12_1 := blk_frozen HGz12 1; have hfz12_2 := blk_frozen HGz12 2; clear HGz12 hgz12))
          repeat (go_quiet (first | ((with_reducible refine gate_dst (N := 23) rfl ?_); (try (refine gate_guard (by rfl) ?_; dsimp only)); refine box_event ?hg (N := 23) ?hd (cs := #[.string a0, .int .i64 a1, .int .i64 0]) (t := 68) ?hr ?_; (case hd => rfl); (case hg => rfl); (case hr => first | (go_simp; done) | (go_simp; rfl)); intro gb289 hg w10 hbox hb; have n0_ := Aside0.mk (below_step (by repeat (first | (with_reducible first | exact HB.out | apply below_alloc | apply pw_below_drewN | apply below_drew1) | exact HB.out)) hb); have n1_ := Aside0.mk ((by rw [hg]; exact (below_size (by repeat (first | (with_reducible first | exact HB.out | apply below_alloc | apply pw_below_drewN | apply below_drew1) | exact HB.out))) : w.heap.size ≤ gb289)); have n2_ := Aside0.mk ((by rw [hg]; exact (below_size (by repeat (first | (with_reducible first | exact HB.out | apply below_alloc | apply pw_below_drewN | apply below_drew1) | exact HB.out))) : w.heap.size ≤ gb289)); have n3_ := Aside0.mk ((show IsS68 w w10 gb289 a0 a1 0 from ⟨hbox, (by rw [hg]; exact (below_size (by repeat (first | (with_reducible first | exact HB.out | apply below_alloc | apply pw_below_drewN | apply below_drew1) | exact HB.out))) : w.heap.size ≤ gb289)⟩)); clear HB; have HB := n0_; have GW289 := n1_; have GE289 := n2_; have HI289 := n3_; clear n0_ n1_ n2_ n3_; clear hb hbox hg) | (go_at_call 36; (with_reducible refine (bonsairef03_Reader_Num.calls kj3 gb289 a0 a1 0 t290 t291 t292 t293 w _ ?side1 ?side2 A7.out).mono ?_); (case side1 => repeat (first | (with_reducible first | exact HI289.out | apply IsS68.alloc | apply IsS68.drewN | apply IsS68.drew | apply IsS68.set_0 | apply IsS68.set_1 | apply IsS68.set_2) | exact HI289.out)); (case side2 => repeat (first | (with_reducible first | exact HB.out | apply below_alloc | apply pw_below_drewN | apply below_drew1 | refine below_set ?_ (IsS68.ge HI289.out)) | exact HB.out)); rintro e w11 ⟨rfl, hi, hb, hk⟩; have n0_ := Aside0.mk (hb); have n1_ := Aside0.mk (hi); clear HB; clear HI289; have HB := n0_; have HI289 := n1_; clear n0_ n1_; (try clear hb); (try clear hb2); (try clear hk); (try clear hi); obtain ⟨HGz12, hgz12⟩ := HI289.out; have hcz12_0 := cellS68_0 HGz12; have hcz12_1 := cellS68_1 HGz12; have hcz12_2 := cellS68_2 HGz12; have hfz12_0 := blk_frozen HGz12 0; have hfz12_1 := blk_frozen HGz12 1; have hfz12_2 := blk_frozen HGz12 2; clear HGz12 hgz12)); go_upto_region 7 with (first | ((with_reducible refine gate_dst (N := 23) rfl ?_); (try (refine gate_guard (by rfl) ?_; dsimp only)); refine box_event ?hg (N := 23) ?hd (cs := #[.string a0, .int .i64 a1, .int .i64 0]) (t := 68) ?hr ?_; (case hd => rfl); (case hg => rfl); (case hr => first | (go_simp; done) | (go_simp; rfl)); intro gb289 hg w10 hbox hb; have n0_ := Aside0.mk (below_step (by repeat (first | (with_reducible first | exact HB.out | apply below_alloc | apply pw_below_drewN | apply below_drew1) | exact HB.out)) hb); have n1_ := Aside0.mk ((by rw [hg]; exact (below_size (by repeat (first | (with_reducible first | exact HB.out | apply below_alloc | apply pw_below_drewN | apply below_drew1) | exact HB.out))) : w.heap.size ≤ gb289)); have n2_ := Aside0.mk ((by rw [hg]; exact (below_size (by repeat (first | (with_reducible first | exact HB.out | apply below_alloc | apply pw_below_drewN | apply below_drew1) | exact HB.out))) : w.heap.size ≤ gb289)); have n3_ := Aside0.mk ((show IsS68 w w10 gb289 a0 a1 0 from ⟨hbox, (by rw [hg]; exact (below_size (by repeat (first | (with_reducible first | exact HB.out | apply below_alloc | apply pw_below_drewN | apply below_drew1) | exact HB.out))) : w.heap.size ≤ gb289)⟩)); clear HB; have HB := n0_; have GW289 := n1_; have GE289 := n2_; have HI289 := n3_; clear n0_ n1_ n2_ n3_; clear hb hbox hg) | (go_at_call 36; (with_reducible refine (bonsairef03_Reader_Num.calls kj3 gb289 a0 a1 0 t290 t291 t292 t293 w _ ?side1 ?side2 A7.out).mono ?_); (case side1 => repeat (first | (with_reducible first | exact HI289.out | apply IsS68.alloc | apply IsS68.drewN | apply IsS68.drew | apply IsS68.set_0 | apply IsS68.set_1 | apply IsS68.set_2) | exact HI289.out)); (case side2 => repeat (first | (with_reducible first | exact HB.out | apply below_alloc | apply pw_below_drewN | apply below_drew1 | refine below_set ?_ (IsS68.ge HI289.out)) | exact HB.out)); rintro e w11 ⟨rfl, hi, hb, hk⟩; have n0_ := Aside0.mk (hb); have n1_ := Aside0.mk (hi); clear HB; clear HI289; have HB := n0_; have HI289 := n1_; clear n0_ n1_; (try clear hb); (try clear hb2); (try clear hk); (try clear hi); obtain ⟨HGz12, hgz12⟩ := HI289.out; have hcz12_0 := cellS68_0 HGz12; have hcz12_1 := cellS68_1 HGz12; have hcz12_2 := cellS68_2 HGz12; have hfz12_0 := blk_frozen HGz12 0; have hfz12_1 := blk_frozen HGz12 1; have hfz12_2 := blk_frozen HGz12 2; clear HGz12 hgz12)))
          (try simp only [Act.put, List.setIfInBounds_toArray, List.set_cons_zero, List.set_cons_succ])
          go_cut [42] (fun v42 wc => ∃ (kq : Nat) (x42_8 : Bool), v42 = .bool x42_8 ∧ Aside0 (bonsairef04_Take.j1 kq t290 x42_8 t291 t292 t293 = some (r1, r2, r3)) ∧ Aside0 (kq ≤ kj3) ∧ Aside0 (IsS68 w wc gb289 t291 t292 t293) ∧ Aside0 (Below w.heap.size w wc))
          case first =>
            have H := HC9.out
            clear HC9
            by_cases c13 : a2 < 0
            · rw [if_pos c13] at H
              have c13b0 : decide (a2 < 0) = true := decide_eq_true c13
              clear c13
              (first | rw [c13b0] | (simp only [i64_w, i32_w]; rw [c13b0]) | skip)
              have H' := Aside0.mk H
              clear H
              go_wp2
              repeat (go_quiet (fail); try go_wp2)
              go_meet
              case rel => exact ⟨_, (true), (by first | rfl | (simp; done) | (simp [*]; done)), H', ⟨by have := HJ3.out; first | omega | exact Nat.le_refl _⟩, ⟨by repeat (first | (with_reducible first | exact HI289.out | apply IsS68.alloc | apply IsS68.drewN | apply IsS68.drew | apply IsS68.set_0 | apply IsS68.set_1 | apply IsS68.set_2) | exact HI289.out)⟩, ⟨by repeat (first | (with_reducible first | exact HB.out | apply below_alloc | apply pw_below_drewN | apply below_drew1 | refine below_set ?_ (IsS68.ge HI289.out)) | exact HB.out)⟩⟩
            · rw [if_neg c13] at H
              have c13b0 : decide (a2 < 0) = false := decide_eq_false c13
              clear c13
              (first | rw [c13b0] | (simp only [i64_w, i32_w]; rw [c13b0]) | skip)
              have H' := Aside0.mk H
              clear H
              go_wp2
              repeat (go_quiet (fail); try go_wp2)
              go_meet
              case rel => exact ⟨_, (decide (t290 > (IntKind.u64.wrap (a2)))), (by first | rfl | (simp; done) | (simp [*]; done)), H', ⟨by have := HJ3.out; first | omega | exact Nat.le_refl _⟩, ⟨by repeat (first | (with_reducible first | exact HI289.out | apply IsS68.alloc | apply IsS68.drewN | apply IsS68.drew | apply IsS68.set_0 | apply IsS68.set_1 | apply IsS68.set_2) | exact HI289.out)⟩, ⟨by repeat (first | (with_reducible first | exact HB.out | apply below_alloc | apply pw_below_drewN | apply below_drew1 | refine below_set ?_ (IsS68.ge HI289.out)) | exact HB.out)⟩⟩
          case rest =>
            clear HC9
            try clear c1
            try clear p2
            try clear c3
            try clear c5
            try clear c5b0
            try clear c6
            try clear c8
            try clear c8b0
            try clear c8b1
            try clear c13
            try clear c13b0
            try clear hcz12_0
            try clear hcz12_1
            try clear hcz12_2
            try clear hfz12_0
            try clear hfz12_1
            try clear hfz12_2
            try clear p2
            obtain ⟨kq, x42_8, rfl, HA, HJ8, HI289, HB⟩ := hcut
            cases kq with
            | zero => exact absurd HA.out (by simp [bonsairef04_Take.j1])
            | succ kj8 =>
              have H := HA.out
              clear HA
              simp only [bonsairef04_Take.j1] at H
              by_cases c14 : x42_8 = true
              · subst c14
                have H1 : (some ((⟨#[]⟩ : ByteArray), 0, 10)) = some (r1, r2, r3) := by rw [if_pos rfl] at H; exact H
                clear H
                have H := H1
                clear H1
                simp only [Option.some.injEq, Prod.mk.injEq] at H
                obtain ⟨rfl, rfl, rfl⟩ := H
                go_wp2
                repeat (go_quiet (fail); try go_wp2)
                go_ret3
                exact ⟨by first | rfl | (simp [errW_none, errW_some] <;> rfl) | (simp [*, errW_none, errW_some] <;> rfl), by repeat (first | (with_reducible first | exact HB.out | apply below_alloc | apply pw_below_drewN | apply below_drew1 | refine below_set ?_ (IsS68.ge HI289.out)) | exact HB.out)⟩
              · replace c14 := Bool.eq_false_iff.mpr c14
                subst c14
                have H1 : ((bonsairef03_Reader_Left.f t291 t292 t293).bind fun bt294 => (if t290 > (IntKind.u64.wrap (bt294.1)) then (some ((⟨#[]⟩ : ByteArray), 0, 2)) else ((bonsairef03_Reader_Take.f kj8 bt294.2.1 bt294.2.2.1 bt294.2.2.2 (wrap64 (t290))).bind fun bt298 => ((bonsairef04_Valid.f kj8 bt298.1).bind fun t302 => (if t302 = true then (some (bt298.1, bt298.2.2.1, 0)) else (some ((⟨#[]⟩ : ByteArray), 0, 4))))))) = some (r1, r2, r3) := by rw [if_neg (show ¬ (false = true) by decide)] at H; exact H
                clear H
                have H := H1
                clear H1
                replace H := Option.bind_eq_some_iff.mp H
                obtain ⟨⟨t294, t295, t296, t297⟩, A150, H⟩ := H
                replace H : (if t290 > (IntKind.u64.wrap (t294)) then (some ((⟨#[]⟩ : ByteArray), 0, 2)) else ((bonsairef03_Reader_Take.f kj8 t295 t296 t297 (wrap64 (t290))).bind fun bt298 => ((bonsairef04_Valid.f kj8 bt298.1).bind fun t302 => (if t302 = true then (some (bt298.1, bt298.2.2.1, 0)) else (some ((⟨#[]⟩ : ByteArray), 0, 4)))))) = some (r1, r2, r3) := H
                have A15 := Aside0.mk A150
                clear A150
                by_cases c16 : t290 > (IntKind.u64.wrap (t294))
                · rw [if_pos c16] at H
                  have c16b0 : decide ((IntKind.u64.wrap (t294)) < t290) = true := decide_eq_true c16
                  clear c16
                  simp only [Option.some.injEq, Prod.mk.injEq] at H
                  obtain ⟨rfl, rfl, rfl⟩ := H
                  go_wp2_with (first | (go_at_call 43; (with_reducible refine (bonsairef03_Reader_Left.calls gb289 t291 t292 t293 t294 t295 t296 t297 w _ ?side1 ?side2 A15.out).mono ?_); (case side1 => repeat (first | (with_reducible first | exact HI289.out | apply IsS68.alloc | apply IsS68.drewN | apply IsS68.drew | apply IsS68.set_0 | apply IsS68.set_1 | apply IsS68.set_2) | exact HI289.out)); (case side2 => repeat (first | (with_reducible first | exact HB.out | apply below_alloc | apply pw_below_drewN | apply below_drew1 | refine below_set ?_ (IsS68.ge HI289.out)) | exact HB.out)); rintro e w17 ⟨rfl, hi, hb, hk⟩; have n0_ := Aside0.mk (hb); have n1_ := Aside0.mk (hi); clear HB; clear HI289; have HB := n0_; have HI289 := n1_; clear n0_ n1_; (try clear hb); (try clear hb2); (try clear hk); (try clear hi)))
                  repeat (go_quiet (first | (go_at_call 43; (with_reducible refine (bonsairef03_Reader_Left.calls gb289 t291 t292 t293 t294 t295 t296 t297 w _ ?side1 ?side2 A15.out).mono ?_); (case side1 => repeat (first | (with_reducible first | exact HI289.out | apply IsS68.alloc | apply IsS68.drewN | apply IsS68.drew | apply IsS68.set_0 | apply IsS68.set_1 | apply IsS68.set_2) | exact HI289.out)); (case side2 => repeat (first | (with_reducible first | exact HB.out | apply below_alloc | apply pw_below_drewN | apply below_drew1 | refine below_set ?_ (IsS68.ge HI289.out)) | exact HB.out)); rintro e w17 ⟨rfl, hi, hb, hk⟩; have n0_ := Aside0.mk (hb); have n1_ := Aside0.mk (hi); clear HB; clear HI289; have HB := n0_; have HI289 := n1_; clear n0_ n1_; (try clear hb); (try clear hb2); (try clear hk); (try clear hi))); try go_wp2_with (first | (go_at_call 43; (with_reducible refine (bonsairef03_Reader_Left.calls gb289 t291 t292 t293 t294 t295 t296 t297 w _ ?side1 ?side2 A15.out).mono ?_); (case side1 => repeat (first | (with_reducible first | exact HI289.out | apply IsS68.alloc | apply IsS68.drewN | apply IsS68.drew | apply IsS68.set_0 | apply IsS68.set_1 | apply IsS68.set_2) | exact HI289.out)); (case side2 => repeat (first | (with_reducible first | exact HB.out | apply below_alloc | apply pw_below_drewN | apply below_drew1 | refine below_set ?_ (IsS68.ge HI289.out)) | exact HB.out)); rintro e w17 ⟨rfl, hi, hb, hk⟩; have n0_ := Aside0.mk (hb); have n1_ := Aside0.mk (hi); clear HB; clear HI289; have HB := n0_; have HI289 := n1_; clear n0_ n1_; (try clear hb); (try clear hb2); (try clear hk); (try clear hi))))
                  go_ret3
                  exact ⟨by first | rfl | (simp [errW_none, errW_some] <;> rfl) | (simp [*, errW_none, errW_some] <;> rfl), by repeat (first | (with_reducible first | exact HB.out | apply below_alloc | apply pw_below_drewN | apply below_drew1 | refine below_set ?_ (IsS68.ge HI289.out)) | exact HB.out)⟩
                · rw [if_neg c16] at H
                  have c16b0 : decide ((IntKind.u64.wrap (t294)) < t290) = false := decide_eq_false c16
                  clear c16
                  replace H := Option.bind_eq_some_iff.mp H
                  obtain ⟨⟨t298, t299, t300, t301⟩, A180, H⟩ := H
                  replace H : ((bonsairef04_Valid.f kj8 t298).bind fun t302 => (if t302 = true then (some (t298, t300, 0)) else (some ((⟨#[]⟩ : ByteArray), 0, 4)))) = some (r1, r2, r3) := H
                  have A18 := Aside0.mk A180
                  clear A180
                  replace H := Option.bind_eq_some_iff.mp H
                  obtain ⟨t302, A190, H⟩ := H
                  replace H : (if t302 = true then (some (t298, t300, 0)) else (some ((⟨#[]⟩ : ByteArray), 0, 4))) = some (r1, r2, r3) := H
                  have A19 := Aside0.mk A190
                  clear A190
                  by_cases c20 : t302 = true
                  · subst c20
                    have H1 : (some (t298, t300, 0)) = some (r1, r2, r3) := by rw [if_pos rfl] at H; exact H
                    clear H
                    have H := H1
                    clear H1
                    simp only [Option.some.injEq, Prod.mk.injEq] at H
                    obtain ⟨rfl, rfl, rfl⟩ := H
                    go_wp2_with (first | (go_at_call 43; (with_reducible refine (bonsairef03_Reader_Left.calls gb289 t291 t292 t293 t294 t295 t296 t297 w _ ?side1 ?side2 A15.out).mono ?_); (case side1 => repeat (first | (with_reducible first | exact HI289.out | apply IsS68.alloc | apply IsS68.drewN | apply IsS68.drew | apply IsS68.set_0 | apply IsS68.set_1 | apply IsS68.set_2) | exact HI289.out)); (case side2 => repeat (first | (with_reducible first | exact HB.out | apply below_alloc | apply pw_below_drewN | apply below_drew1 | refine below_set ?_ (IsS68.ge HI289.out)) | exact HB.out)); rintro e w21 ⟨rfl, hi, hb, hk⟩; have n0_ := Aside0.mk (hb); have n1_ := Aside0.mk (hi); clear HB; clear HI289; have HB := n0_; have HI289 := n1_; clear n0_ n1_; (try clear hb); (try clear hb2); (try clear hk); (try clear hi)) | (go_at_call 70; (with_reducible refine (bonsairef03_Reader_Take.calls kj8 gb289 t295 t296 t297 (wrap64 (t290)) t298 t299 t300 t301 w _ ?side1 ?side2 A18.out).mono ?_); (case side1 => repeat (first | (with_reducible first | exact HI289.out | apply IsS68.alloc | apply IsS68.drewN | apply IsS68.drew | apply IsS68.set_0 | apply IsS68.set_1 | apply IsS68.set_2) | exact HI289.out)); (case side2 => repeat (first | (with_reducible first | exact HB.out | apply below_alloc | apply pw_below_drewN | apply below_drew1 | refine below_set ?_ (IsS68.ge HI289.out)) | exact HB.out)); rintro e w22 ⟨rfl, hi, hb, hk⟩; have n0_ := Aside0.mk (hb); have n1_ := Aside0.mk (hi); clear HB; clear HI289; have HB := n0_; have HI289 := n1_; clear n0_ n1_; (try clear hb); (try clear hb2); (try clear hk); (try clear hi)) | (go_at_call 71; (with_reducible refine (bonsairef04_Valid.calls kj8 t298 true _ A19.out).mono ?_); rintro e w' ⟨rfl, ⟨nd, rfl⟩⟩; (try first | exact ⟨rfl, _, World.drewN_drewN _ _ _⟩ | exact ⟨rfl, _, Eq.trans (World.drewN_drewN _ _ _) (congrArg (World.drewN _) (Nat.add_assoc _ _ _))⟩); obtain ⟨HGz23, hgz23⟩ := HI289.out; have hcz23_0 := cellS68_0 HGz23; have hcz23_1 := cellS68_1 HGz23; have hcz23_2 := cellS68_2 HGz23; have hfz23_0 := blk_frozen HGz23 0; have hfz23_1 := blk_frozen HGz23 1; have hfz23_2 := blk_frozen HGz23 2; clear HGz23 hgz23))
                    repeat (go_quiet (first | (go_at_call 43; (with_reducible refine (bonsairef03_Reader_Left.calls gb289 t291 t292 t293 t294 t295 t296 t297 w _ ?side1 ?side2 A15.out).mono ?_); (case side1 => repeat (first | (with_reducible first | exact HI289.out | apply IsS68.alloc | apply IsS68.drewN | apply IsS68.drew | apply IsS68.set_0 | apply IsS68.set_1 | apply IsS68.set_2) | exact HI289.out)); (case side2 => repeat (first | (with_reducible first | exact HB.out | apply below_alloc | apply pw_below_drewN | apply below_drew1 | refine below_set ?_ (IsS68.ge HI289.out)) | exact HB.out)); rintro e w21 ⟨rfl, hi, hb, hk⟩; have n0_ := Aside0.mk (hb); have n1_ := Aside0.mk (hi); clear HB; clear HI289; have HB := n0_; have HI289 := n1_; clear n0_ n1_; (try clear hb); (try clear hb2); (try clear hk); (try clear hi)) | (go_at_call 70; (with_reducible refine (bonsairef03_Reader_Take.calls kj8 gb289 t295 t296 t297 (wrap64 (t290)) t298 t299 t300 t301 w _ ?side1 ?side2 A18.out).mono ?_); (case side1 => repeat (first | (with_reducible first | exact HI289.out | apply IsS68.alloc | apply IsS68.drewN | apply IsS68.drew | apply IsS68.set_0 | apply IsS68.set_1 | apply IsS68.set_2) | exact HI289.out)); (case side2 => repeat (first | (with_reducible first | exact HB.out | apply below_alloc | apply pw_below_drewN | apply below_drew1 | refine below_set ?_ (IsS68.ge HI289.out)) | exact HB.out)); rintro e w22 ⟨rfl, hi, hb, hk⟩; have n0_ := Aside0.mk (hb); have n1_ := Aside0.mk (hi); clear HB; clear HI289; have HB := n0_; have HI289 := n1_; clear n0_ n1_; (try clear hb); (try clear hb2); (try clear hk); (try clear hi)) | (go_at_call 71; (with_reducible refine (bonsairef04_Valid.calls kj8 t298 true _ A19.out).mono ?_); rintro e w' ⟨rfl, ⟨nd, rfl⟩⟩; (try first | exact ⟨rfl, _, World.drewN_drewN _ _ _⟩ | exact ⟨rfl, _, Eq.trans (World.drewN_drewN _ _ _) (congrArg (World.drewN _) (Nat.add_assoc _ _ _))⟩); obtain ⟨HGz23, hgz23⟩ := HI289.out; have hcz23_0 := cellS68_0 HGz23; have hcz23_1 := cellS68_1 HGz23; have hcz23_2 := cellS68_2 HGz23; have hfz23_0 := blk_frozen HGz23 0; have hfz23_1 := blk_frozen HGz23 1; have hfz23_2 := blk_frozen HGz23 2; clear HGz23 hgz23)); try go_wp2_with (first | (go_at_call 43; (with_reducible refine (bonsairef03_Reader_Left.calls gb289 t291 t292 t293 t294 t295 t296 t297 w _ ?side1 ?side2 A15.out).mono ?_); (case side1 => repeat (first | (with_reducible first | exact HI289.out | apply IsS68.alloc | apply IsS68.drewN | apply IsS68.drew | apply IsS68.set_0 | apply IsS68.set_1 | apply IsS68.set_2) | exact HI289.out)); (case side2 => repeat (first | (with_reducible first | exact HB.out | apply below_alloc | apply pw_below_drewN | apply below_drew1 | refine below_set ?_ (IsS68.ge HI289.out)) | exact HB.out)); rintro e w21 ⟨rfl, hi, hb, hk⟩; have n0_ := Aside0.mk (hb); have n1_ := Aside0.mk (hi); clear HB; clear HI289; have HB := n0_; have HI289 := n1_; clear n0_ n1_; (try clear hb); (try clear hb2); (try clear hk); (try clear hi)) | (go_at_call 70; (with_reducible refine (bonsairef03_Reader_Take.calls kj8 gb289 t295 t296 t297 (wrap64 (t290)) t298 t299 t300 t301 w _ ?side1 ?side2 A18.out).mono ?_); (case side1 => repeat (first | (with_reducible first | exact HI289.out | apply IsS68.alloc | apply IsS68.drewN | apply IsS68.drew | apply IsS68.set_0 | apply IsS68.set_1 | apply IsS68.set_2) | exact HI289.out)); (case side2 => repeat (first | (with_reducible first | exact HB.out | apply below_alloc | apply pw_below_drewN | apply below_drew1 | refine below_set ?_ (IsS68.ge HI289.out)) | exact HB.out)); rintro e w22 ⟨rfl, hi, hb, hk⟩; have n0_ := Aside0.mk (hb); have n1_ := Aside0.mk (hi); clear HB; clear HI289; have HB := n0_; have HI289 := n1_; clear n0_ n1_; (try clear hb); (try clear hb2); (try clear hk); (try clear hi)) | (go_at_call 71; (with_reducible refine (bonsairef04_Valid.calls kj8 t298 true _ A19.out).mono ?_); rintro e w' ⟨rfl, ⟨nd, rfl⟩⟩; (try first | exact ⟨rfl, _, World.drewN_drewN _ _ _⟩ | exact ⟨rfl, _, Eq.trans (World.drewN_drewN _ _ _) (congrArg (World.drewN _) (Nat.add_assoc _ _ _))⟩); obtain ⟨HGz23, hgz23⟩ := HI289.out; have hcz23_0 := cellS68_0 HGz23; have hcz23_1 := cellS68_1 HGz23; have hcz23_2 := cellS68_2 HGz23; have hfz23_0 := blk_frozen HGz23 0; have hfz23_1 := blk_frozen HGz23 1; have hfz23_2 := blk_frozen HGz23 2; clear HGz23 hgz23)))
                    go_ret3
                    exact ⟨by first | rfl | (simp [errW_none, errW_some] <;> rfl) | (simp [*, errW_none, errW_some] <;> rfl), by repeat (first | (with_reducible first | exact HB.out | apply below_alloc | apply pw_below_drewN | apply below_drew1 | refine below_set ?_ (IsS68.ge HI289.out)) | exact HB.out)⟩
                  · replace c20 := Bool.eq_false_iff.mpr c20
                    subst c20
                    have H1 : (some ((⟨#[]⟩ : ByteArray), 0, 4)) = some (r1, r2, r3) := by rw [if_neg (show ¬ (false = true) by decide)] at H; exact H
                    clear H
                    have H := H1
                    clear H1
                    simp only [Option.some.injEq, Prod.mk.injEq] at H
                    obtain ⟨rfl, rfl, rfl⟩ := H
                    go_wp2_with (first | (go_at_call 43; (with_reducible refine (bonsairef03_Reader_Left.calls gb289 t291 t292 t293 t294 t295 t296 t297 w _ ?side1 ?side2 A15.out).mono ?_); (case side1 => repeat (first | (with_reducible first | exact HI289.out | apply IsS68.alloc | apply IsS68.drewN | apply IsS68.drew | apply IsS68.set_0 | apply IsS68.set_1 | apply IsS68.set_2) | exact HI289.out)); (case side2 => repeat (first | (with_reducible first | exact HB.out | apply below_alloc | apply pw_below_drewN | apply below_drew1 | refine below_set ?_ (IsS68.ge HI289.out)) | exact HB.out)); rintro e w24 ⟨rfl, hi, hb, hk⟩; have n0_ := Aside0.mk (hb); have n1_ := Aside0.mk (hi); clear HB; clear HI289; have HB := n0_; have HI289 := n1_; clear n0_ n1_; (try clear hb); (try clear hb2); (try clear hk); (try clear hi)) | (go_at_call 70; (with_reducible refine (bonsairef03_Reader_Take.calls kj8 gb289 t295 t296 t297 (wrap64 (t290)) t298 t299 t300 t301 w _ ?side1 ?side2 A18.out).mono ?_); (case side1 => repeat (first | (with_reducible first | exact HI289.out | apply IsS68.alloc | apply IsS68.drewN | apply IsS68.drew | apply IsS68.set_0 | apply IsS68.set_1 | apply IsS68.set_2) | exact HI289.out)); (case side2 => repeat (first | (with_reducible first | exact HB.out | apply below_alloc | apply pw_below_drewN | apply below_drew1 | refine below_set ?_ (IsS68.ge HI289.out)) | exact HB.out)); rintro e w25 ⟨rfl, hi, hb, hk⟩; have n0_ := Aside0.mk (hb); have n1_ := Aside0.mk (hi); clear HB; clear HI289; have HB := n0_; have HI289 := n1_; clear n0_ n1_; (try clear hb); (try clear hb2); (try clear hk); (try clear hi)) | (go_at_call 71; (with_reducible refine (bonsairef04_Valid.calls kj8 t298 false _ A19.out).mono ?_); rintro e w' ⟨rfl, ⟨nd, rfl⟩⟩; (try first | exact ⟨rfl, _, World.drewN_drewN _ _ _⟩ | exact ⟨rfl, _, Eq.trans (World.drewN_drewN _ _ _) (congrArg (World.drewN _) (Nat.add_assoc _ _ _))⟩)))
                    repeat (go_quiet (first | (go_at_call 43; (with_reducible refine (bonsairef03_Reader_Left.calls gb289 t291 t292 t293 t294 t295 t296 t297 w _ ?side1 ?side2 A15.out).mono ?_); (case side1 => repeat (first | (with_reducible first | exact HI289.out | apply IsS68.alloc | apply IsS68.drewN | apply IsS68.drew | apply IsS68.set_0 | apply IsS68.set_1 | apply IsS68.set_2) | exact HI289.out)); (case side2 => repeat (first | (with_reducible first | exact HB.out | apply below_alloc | apply pw_below_drewN | apply below_drew1 | refine below_set ?_ (IsS68.ge HI289.out)) | exact HB.out)); rintro e w24 ⟨rfl, hi, hb, hk⟩; have n0_ := Aside0.mk (hb); have n1_ := Aside0.mk (hi); clear HB; clear HI289; have HB := n0_; have HI289 := n1_; clear n0_ n1_; (try clear hb); (try clear hb2); (try clear hk); (try clear hi)) | (go_at_call 70; (with_reducible refine (bonsairef03_Reader_Take.calls kj8 gb289 t295 t296 t297 (wrap64 (t290)) t298 t299 t300 t301 w _ ?side1 ?side2 A18.out).mono ?_); (case side1 => repeat (first | (with_reducible first | exact HI289.out | apply IsS68.alloc | apply IsS68.drewN | apply IsS68.drew | apply IsS68.set_0 | apply IsS68.set_1 | apply IsS68.set_2) | exact HI289.out)); (case side2 => repeat (first | (with_reducible first | exact HB.out | apply below_alloc | apply pw_below_drewN | apply below_drew1 | refine below_set ?_ (IsS68.ge HI289.out)) | exact HB.out)); rintro e w25 ⟨rfl, hi, hb, hk⟩; have n0_ := Aside0.mk (hb); have n1_ := Aside0.mk (hi); clear HB; clear HI289; have HB := n0_; have HI289 := n1_; clear n0_ n1_; (try clear hb); (try clear hb2); (try clear hk); (try clear hi)) | (go_at_call 71; (with_reducible refine (bonsairef04_Valid.calls kj8 t298 false _ A19.out).mono ?_); rintro e w' ⟨rfl, ⟨nd, rfl⟩⟩; (try first | exact ⟨rfl, _, World.drewN_drewN _ _ _⟩ | exact ⟨rfl, _, Eq.trans (World.drewN_drewN _ _ _) (congrArg (World.drewN _) (Nat.add_assoc _ _ _))⟩))); try go_wp2_with (first | (go_at_call 43; (with_reducible refine (bonsairef03_Reader_Left.calls gb289 t291 t292 t293 t294 t295 t296 t297 w _ ?side1 ?side2 A15.out).mono ?_); (case side1 => repeat (first | (with_reducible first | exact HI289.out | apply IsS68.alloc | apply IsS68.drewN | apply IsS68.drew | apply IsS68.set_0 | apply IsS68.set_1 | apply IsS68.set_2) | exact HI289.out)); (case side2 => repeat (first | (with_reducible first | exact HB.out | apply below_alloc | apply pw_below_drewN | apply below_drew1 | refine below_set ?_ (IsS68.ge HI289.out)) | exact HB.out)); rintro e w24 ⟨rfl, hi, hb, hk⟩; have n0_ := Aside0.mk (hb); have n1_ := Aside0.mk (hi); clear HB; clear HI289; have HB := n0_; have HI289 := n1_; clear n0_ n1_; (try clear hb); (try clear hb2); (try clear hk); (try clear hi)) | (go_at_call 70; (with_reducible refine (bonsairef03_Reader_Take.calls kj8 gb289 t295 t296 t297 (wrap64 (t290)) t298 t299 t300 t301 w _ ?side1 ?side2 A18.out).mono ?_); (case side1 => repeat (first | (with_reducible first | exact HI289.out | apply IsS68.alloc | apply IsS68.drewN | apply IsS68.drew | apply IsS68.set_0 | apply IsS68.set_1 | apply IsS68.set_2) | exact HI289.out)); (case side2 => repeat (first | (with_reducible first | exact HB.out | apply below_alloc | apply pw_below_drewN | apply below_drew1 | refine below_set ?_ (IsS68.ge HI289.out)) | exact HB.out)); rintro e w25 ⟨rfl, hi, hb, hk⟩; have n0_ := Aside0.mk (hb); have n1_ := Aside0.mk (hi); clear HB; clear HI289; have HB := n0_; have HI289 := n1_; clear n0_ n1_; (try clear hb); (try clear hb2); (try clear hk); (try clear hi)) | (go_at_call 71; (with_reducible refine (bonsairef04_Valid.calls kj8 t298 false _ A19.out).mono ?_); rintro e w' ⟨rfl, ⟨nd, rfl⟩⟩; (try first | exact ⟨rfl, _, World.drewN_drewN _ _ _⟩ | exact ⟨rfl, _, Eq.trans (World.drewN_drewN _ _ _) (congrArg (World.drewN _) (Nat.add_assoc _ _ _))⟩))))
                    go_ret3
                    exact ⟨by first | rfl | (simp [errW_none, errW_some] <;> rfl) | (simp [*, errW_none, errW_some] <;> rfl), by repeat (first | (with_reducible first | exact HB.out | apply below_alloc | apply pw_below_drewN | apply below_drew1 | refine below_set ?_ (IsS68.ge HI289.out)) | exact HB.out)⟩
        · rw [if_neg c8] at H
          have c8b0 : (t293 == 0) = false := beq_eq_false_iff_ne.mpr c8
          have c8b1 : (t293 != 0) = true := bne_iff_ne.mpr c8
          simp only [Option.some.injEq, Prod.mk.injEq] at H
          obtain ⟨rfl, rfl, rfl⟩ := H
          go_wp2_with (first | ((with_reducible refine gate_dst (N := 23) rfl ?_); (try (refine gate_guard (by rfl) ?_; dsimp only)); refine box_event ?hg (N := 23) ?hd (cs := #[.string a0, .int .i64 a1, .int .i64 0]) (t := 68) ?hr ?_; (case hd => rfl); (case hg => rfl); (case hr => first | (go_simp; done) | (go_simp; rfl)); intro gb289 hg w26 hbox hb; have n0_ := Aside0.mk (below_step (by repeat (first | (with_reducible first | exact HB.out | apply below_alloc | apply pw_below_drewN | apply below_drew1) | exact HB.out)) hb); have n1_ := Aside0.mk ((by rw [hg]; exact (below_size (by repeat (first | (with_reducible first | exact HB.out | apply below_alloc | apply pw_below_drewN | apply below_drew1) | exact HB.out))) : w.heap.size ≤ gb289)); have n2_ := Aside0.mk ((by rw [hg]; exact (below_size (by repeat (first | (with_reducible first | exact HB.out | apply below_alloc | apply pw_below_drewN | apply below_drew1) | exact HB.out))) : w.heap.size ≤ gb289)); have n3_ := Aside0.mk ((show IsS68 w w26 gb289 a0 a1 0 from ⟨hbox, (by rw [hg]; exact (below_size (by repeat (first | (with_reducible first | exact HB.out | apply below_alloc | apply pw_below_drewN | apply below_drew1) | exact HB.out))) : w.heap.size ≤ gb289)⟩)); clear HB; have HB := n0_; have GW289 := n1_; have GE289 := n2_; have HI289 := n3_; clear n0_ n1_ n2_ n3_; clear hb hbox hg) | (go_at_call 36; (with_reducible refine (bonsairef03_Reader_Num.calls kj3 gb289 a0 a1 0 t290 t291 t292 t293 w _ ?side1 ?side2 A7.out).mono ?_); (case side1 => repeat (first | (with_reducible first | exact HI289.out | apply IsS68.alloc | apply IsS68.drewN | apply IsS68.drew | apply IsS68.set_0 | apply IsS68.set_1 | apply IsS68.set_2) | exact HI289.out)); (case side2 => repeat (first | (with_reducible first | exact HB.out | apply below_alloc | apply pw_below_drewN | apply below_drew1 | refine below_set ?_ (IsS68.ge HI289.out)) | exact HB.out)); rintro e w27 ⟨rfl, hi, hb, hk⟩; have n0_ := Aside0.mk (hb); have n1_ := Aside0.mk (hi); clear HB; clear HI289; have HB := n0_; have HI289 := n1_; clear n0_ n1_; (try clear hb); (try clear hb2); (try clear hk); (try clear hi); obtain ⟨HGz28, hgz28⟩ := HI289.out; have hcz28_0 := cellS68_0 HGz28; have hcz28_1 := cellS68_1 HGz28; have hcz28_2 := cellS68_2 HGz28; have hfz28_0 := blk_frozen HGz28 0; have hfz28_1 := blk_frozen HGz28 1; have hfz28_2 := blk_frozen HGz28 2; clear HGz28 hgz28))
          repeat (go_quiet (first | ((with_reducible refine gate_dst (N := 23) rfl ?_); (try (refine gate_guard (by rfl) ?_; dsimp only)); refine box_event ?hg (N := 23) ?hd (cs := #[.string a0, .int .i64 a1, .int .i64 0]) (t := 68) ?hr ?_; (case hd => rfl); (case hg => rfl); (case hr => first | (go_simp; done) | (go_simp; rfl)); intro gb289 hg w26 hbox hb; have n0_ := Aside0.mk (below_step (by repeat (first | (with_reducible first | exact HB.out | apply below_alloc | apply pw_below_drewN | apply below_drew1) | exact HB.out)) hb); have n1_ := Aside0.mk ((by rw [hg]; exact (below_size (by repeat (first | (with_reducible first | exact HB.out | apply below_alloc | apply pw_below_drewN | apply below_drew1) | exact HB.out))) : w.heap.size ≤ gb289)); have n2_ := Aside0.mk ((by rw [hg]; exact (below_size (by repeat (first | (with_reducible first | exact HB.out | apply below_alloc | apply pw_below_drewN | apply below_drew1) | exact HB.out))) : w.heap.size ≤ gb289)); have n3_ := Aside0.mk ((show IsS68 w w26 gb289 a0 a1 0 from ⟨hbox, (by rw [hg]; exact (below_size (by repeat (first | (with_reducible first | exact HB.out | apply below_alloc | apply pw_below_drewN | apply below_drew1) | exact HB.out))) : w.heap.size ≤ gb289)⟩)); clear HB; have HB := n0_; have GW289 := n1_; have GE289 := n2_; have HI289 := n3_; clear n0_ n1_ n2_ n3_; clear hb hbox hg) | (go_at_call 36; (with_reducible refine (bonsairef03_Reader_Num.calls kj3 gb289 a0 a1 0 t290 t291 t292 t293 w _ ?side1 ?side2 A7.out).mono ?_); (case side1 => repeat (first | (with_reducible first | exact HI289.out | apply IsS68.alloc | apply IsS68.drewN | apply IsS68.drew | apply IsS68.set_0 | apply IsS68.set_1 | apply IsS68.set_2) | exact HI289.out)); (case side2 => repeat (first | (with_reducible first | exact HB.out | apply below_alloc | apply pw_below_drewN | apply below_drew1 | refine below_set ?_ (IsS68.ge HI289.out)) | exact HB.out)); rintro e w27 ⟨rfl, hi, hb, hk⟩; have n0_ := Aside0.mk (hb); have n1_ := Aside0.mk (hi); clear HB; clear HI289; have HB := n0_; have HI289 := n1_; clear n0_ n1_; (try clear hb); (try clear hb2); (try clear hk); (try clear hi); obtain ⟨HGz28, hgz28⟩ := HI289.out; have hcz28_0 := cellS68_0 HGz28; have hcz28_1 := cellS68_1 HGz28; have hcz28_2 := cellS68_2 HGz28; have hfz28_0 := blk_frozen HGz28 0; have hfz28_1 := blk_frozen HGz28 1; have hfz28_2 := blk_frozen HGz28 2; clear HGz28 hgz28)); try go_wp2_with (first | ((with_reducible refine gate_dst (N := 23) rfl ?_); (try (refine gate_guard (by rfl) ?_; dsimp only)); refine box_event ?hg (N := 23) ?hd (cs := #[.string a0, .int .i64 a1, .int .i64 0]) (t := 68) ?hr ?_; (case hd => rfl); (case hg => rfl); (case hr => first | (go_simp; done) | (go_simp; rfl)); intro gb289 hg w26 hbox hb; have n0_ := Aside0.mk (below_step (by repeat (first | (with_reducible first | exact HB.out | apply below_alloc | apply pw_below_drewN | apply below_drew1) | exact HB.out)) hb); have n1_ := Aside0.mk ((by rw [hg]; exact (below_size (by repeat (first | (with_reducible first | exact HB.out | apply below_alloc | apply pw_below_drewN | apply below_drew1) | exact HB.out))) : w.heap.size ≤ gb289)); have n2_ := Aside0.mk ((by rw [hg]; exact (below_size (by repeat (first | (with_reducible first | exact HB.out | apply below_alloc | apply pw_below_drewN | apply below_drew1) | exact HB.out))) : w.heap.size ≤ gb289)); have n3_ := Aside0.mk ((show IsS68 w w26 gb289 a0 a1 0 from ⟨hbox, (by rw [hg]; exact (below_size (by repeat (first | (with_reducible first | exact HB.out | apply below_alloc | apply pw_below_drewN | apply below_drew1) | exact HB.out))) : w.heap.size ≤ gb289)⟩)); clear HB; have HB := n0_; have GW289 := n1_; have GE289 := n2_; have HI289 := n3_; clear n0_ n1_ n2_ n3_; clear hb hbox hg) | (go_at_call 36; (with_reducible refine (bonsairef03_Reader_Num.calls kj3 gb289 a0 a1 0 t290 t291 t292 t293 w _ ?side1 ?side2 A7.out).mono ?_); (case side1 => repeat (first | (with_reducible first | exact HI289.out | apply IsS68.alloc | apply IsS68.drewN | apply IsS68.drew | apply IsS68.set_0 | apply IsS68.set_1 | apply IsS68.set_2) | exact HI289.out)); (case side2 => repeat (first | (with_reducible first | exact HB.out | apply below_alloc | apply pw_below_drewN | apply below_drew1 | refine below_set ?_ (IsS68.ge HI289.out)) | exact HB.out)); rintro e w27 ⟨rfl, hi, hb, hk⟩; have n0_ := Aside0.mk (hb); have n1_ := Aside0.mk (hi); clear HB; clear HI289; have HB := n0_; have HI289 := n1_; clear n0_ n1_; (try clear hb); (try clear hb2); (try clear hk); (try clear hi); obtain ⟨HGz28, hgz28⟩ := HI289.out; have hcz28_0 := cellS68_0 HGz28; have hcz28_1 := cellS68_1 HGz28; have hcz28_2 := cellS68_2 HGz28; have hfz28_0 := blk_frozen HGz28 0; have hfz28_1 := blk_frozen HGz28 1; have hfz28_2 := blk_frozen HGz28 2; clear HGz28 hgz28)))
          go_ret3
          exact ⟨by first | rfl | (simp [errW_none, errW_some] <;> rfl) | (simp [*, errW_none, errW_some] <;> rfl), by repeat (first | (with_reducible first | exact HB.out | apply below_alloc | apply pw_below_drewN | apply below_drew1 | refine below_set ?_ (IsS68.ge HI289.out)) | exact HB.out)⟩
def bonsairef03_Reader_Fix.l0 : Nat → ByteArray → Int → Int → ByteArray → Int → Int → Option (Int × ByteArray × Int × Int)
  | 0, _, _, _, _, _, _ => none
  | k + 1, x3, x4, x5, x1000, x1001, x1002 => if x5 ≥ 0 then (if 0 ≤ x5 then (if x5 < (x3.size : Int) then (bonsairef03_Reader_Fix.l0 k x3 (IntKind.u64.wrap ((IntKind.u64.wrap (256 * x4)) + (IntKind.u64.wrap (bt x3 x5)))) (wrap64 (x5 - 1)) x1000 x1001 x1002) else (none)) else (none)) else (some (x4, x1000, x1001, x1002))
def bonsairef03_Reader_Fix.f (k : Nat) (s0_0 : ByteArray) (s0_1 : Int) (s0_2 : Int) : Option (Int × ByteArray × Int × Int) := (bonsairef03_Reader_Take.f k s0_0 s0_1 s0_2 8).bind fun bt303 => (bonsairef03_Reader_Fix.l0 k bt303.1 0 (wrap64 ((bt303.1.size : Int) - 1)) bt303.2.1 bt303.2.2.1 bt303.2.2.2)
set_option maxHeartbeats 8000000 in
set_option maxRecDepth 100000 in
theorem bonsairef03_Reader_Fix.calls (k : Nat) (g : Nat) (s0_0 : ByteArray) (s0_1 : Int) (s0_2 : Int) (r1 : Int) (r2 : ByteArray) (r3 : Int) (r4 : Int) (w0 w : World) (hI : IsS68 w0 w g s0_0 s0_1 s0_2) (hB : Below w0.heap.size w0 w) (h : bonsairef03_Reader_Fix.f k s0_0 s0_1 s0_2 = some (r1, r2, r3, r4)) :
    Calls Try.prog 38 #[.pointer (some ⟨g, 0, none⟩)] w fun e w' => e = .returned (.int .u64 r1) ∧ IsS68 w0 w' g r2 r3 r4 ∧ Below w0.heap.size w0 w' ∧ KeepBut w w' g none := by
  have HI0 := Aside0.mk hI
  have HK := Aside0.mk (KeepBut.refl w g none)
  have HL := Aside0.mk hB.size
  clear hI
  have HW0 := Aside0.mk hB.size
  have HB := Aside0.mk hB
  clear hB
  have H : ((bonsairef03_Reader_Take.f k s0_0 s0_1 s0_2 8).bind fun bt303 => (bonsairef03_Reader_Fix.l0 k bt303.1 0 (wrap64 ((bt303.1.size : Int) - 1)) bt303.2.1 bt303.2.2.1 bt303.2.2.2)) = some (r1, r2, r3, r4) := h
  clear h
  replace H := Option.bind_eq_some_iff.mp H
  obtain ⟨⟨t303, t304, t305, t306⟩, A20, H⟩ := H
  replace H : (bonsairef03_Reader_Fix.l0 k t303 0 (wrap64 ((t303.size : Int) - 1)) t304 t305 t306) = some (r1, r2, r3, r4) := H
  have A2 := Aside0.mk A20
  clear A20
  have H' := Aside0.mk H
  clear H
  go_enter Try.func38, Try.ntmps38
  go_wp2_with (first | ((with_reducible refine gate_callee (f := 70) rfl ?_); refine goesL_ (some 7) rfl rfl Try.func70 (by kernel_rfl) rfl #[.pointer (some ⟨g, 0, none⟩), .int .i64 8] rfl (by (try simp only [List.map_toArray, List.map_cons, List.map_nil]); first | done | rfl | (simp only [List.length_drop, List.length_take]; rfl)) ?_; (with_reducible refine (bonsairef03_Reader_Take.calls k g s0_0 s0_1 s0_2 8 t303 t304 t305 t306 w0 _ ?side1 ?side2 A2.out).mono ?_); (case side1 => repeat (first | (with_reducible first | exact HI0.out | apply IsS68.alloc | apply IsS68.drewN | apply IsS68.drew | apply IsS68.set_0 | apply IsS68.set_1 | apply IsS68.set_2) | exact HI0.out)); (case side2 => repeat (first | (with_reducible first | exact HB.out | apply below_alloc | apply pw_below_drewN | apply below_drew1 | refine below_set ?_ (IsS68.ge HI0.out)) | exact HB.out)); rintro e w3 ⟨rfl, hi, hb, hk⟩; refine ⟨_, rfl, ?_⟩; have n0_ := Aside0.mk (KeepBut.trans (by repeat (first | (with_reducible first | exact HK.out | apply KeepBut.set_ | apply keep_drewN | apply keep_drew | apply keep_alloc) | exact HK.out)) hk (.inl rfl)); have n1_ := Aside0.mk (hb); have n2_ := Aside0.mk (hi); clear HK; clear HB; clear HI0; have HK := n0_; have HB := n1_; have HI0 := n2_; clear n0_ n1_ n2_; (try clear hb); (try clear hb2); (try clear hk); (try clear hi)))
  go_loopg [4, 5] k (fun kq v4 v5 w' => ∃ (x4_1 : Int) (x5_1 : Int), v4 = .int .u64 x4_1 ∧ v5 = .int .i64 x5_1 ∧ Aside0 (bonsairef03_Reader_Fix.l0 kq t303 x4_1 x5_1 t304 t305 t306 = some (r1, r2, r3, r4)) ∧ Aside0 (kq ≤ k) ∧ Aside0 (IsS68 w0 w' g t304 t305 t306) ∧ Aside0 (KeepBut w w' g none) ∧ Aside0 (Below w0.heap.size w0 w'))
  case atStart => exact ⟨(0), (wrap64 ((t303.size : Int) - 1)), (by first | rfl | (simp; done) | (simp [*]; done)), (by first | rfl | (simp; done) | (simp [*]; done)), H', ⟨Nat.le_refl _⟩, ⟨by repeat (first | (with_reducible first | exact HI0.out | apply IsS68.alloc | apply IsS68.drewN | apply IsS68.drew | apply IsS68.set_0 | apply IsS68.set_1 | apply IsS68.set_2) | exact HI0.out)⟩, ⟨by repeat (first | (with_reducible first | exact HK.out | apply KeepBut.set_ | apply keep_drewN | apply keep_drew | apply keep_alloc) | exact HK.out)⟩, ⟨by repeat (first | (with_reducible first | exact HB.out | apply below_alloc | apply pw_below_drewN | apply below_drew1 | refine below_set ?_ (IsS68.ge HI0.out)) | exact HB.out)⟩⟩
  case round =>
    clear H'
    try clear p2
    try clear c3
    obtain ⟨x4_1, x5_1, rfl, rfl, HA, HK1, HI0, HK, HB⟩ := hrel
    cases gk with
    | zero => exact absurd HA.out (by simp [bonsairef03_Reader_Fix.l0])
    | succ k1 =>
      have H := HA.out
      clear HA
      simp only [bonsairef03_Reader_Fix.l0] at H
      by_cases c4 : x5_1 ≥ 0
      · rw [if_pos c4] at H
        have c4b0 : decide (0 ≤ x5_1) = true := decide_eq_true c4
        clear c4
        by_cases c5 : 0 ≤ x5_1
        · rw [if_pos c5] at H
          have c5b0 : decide (0 ≤ x5_1) = true := decide_eq_true c5
          clear c5
          by_cases c6 : x5_1 < (t303.size : Int)
          · rw [if_pos c6] at H
            have c6b0 : decide (x5_1 < (t303.size : Int)) = true := decide_eq_true c6
            clear c6
            have H' := Aside0.mk H
            clear H
            have p7 : 0 ≤ (x5_1 : Int) := of_decide_eq_true (by first | (with_reducible assumption) | assumption)
            have q7 : x5_1 < (t303.size : Int) := of_decide_eq_true (by first | (with_reducible assumption) | assumption)
            have hx7 := bt_at t303 x5_1
            replace p7 := eq_true p7
            replace q7 := eq_true q7
            go_wp2
            go_roundg k1
            case measure => have := HK1.out; omega
            case rel => exact ⟨(IntKind.u64.wrap ((IntKind.u64.wrap (256 * x4_1)) + (IntKind.u64.wrap (bt t303 x5_1)))), (wrap64 (x5_1 - 1)), (by first | rfl | (simp; done) | (simp [*]; done)), (by first | rfl | (simp; done) | (simp [*]; done)), H', ⟨by have := HK1.out; omega⟩, ⟨by repeat (first | (with_reducible first | exact HI0.out | apply IsS68.alloc | apply IsS68.drewN | apply IsS68.drew | apply IsS68.set_0 | apply IsS68.set_1 | apply IsS68.set_2) | exact HI0.out)⟩, ⟨by repeat (first | (with_reducible first | exact HK.out | apply KeepBut.set_ | apply keep_drewN | apply keep_drew | apply keep_alloc) | exact HK.out)⟩, ⟨by repeat (first | (with_reducible first | exact HB.out | apply below_alloc | apply pw_below_drewN | apply below_drew1 | refine below_set ?_ (IsS68.ge HI0.out)) | exact HB.out)⟩⟩
          · rw [if_neg c6] at H
            exact absurd H (by simp)
        · rw [if_neg c5] at H
          exact absurd H (by simp)
      · rw [if_neg c4] at H
        have c4b0 : decide (0 ≤ x5_1) = false := decide_eq_false c4
        clear c4
        simp only [Option.some.injEq, Prod.mk.injEq] at H
        obtain ⟨rfl, rfl, rfl, rfl⟩ := H
        go_wp2
        go_ret
        exact ⟨by first | rfl | (simp [errW_none, errW_some] <;> rfl) | (simp [*, errW_none, errW_some] <;> rfl), by repeat (first | (with_reducible first | exact HI0.out | apply IsS68.alloc | apply IsS68.drewN | apply IsS68.drew | apply IsS68.set_0 | apply IsS68.set_1 | apply IsS68.set_2) | exact HI0.out), by repeat (first | (with_reducible first | exact HB.out | apply below_alloc | apply pw_below_drewN | apply below_drew1 | refine below_set ?_ (IsS68.ge HI0.out)) | exact HB.out), by repeat (first | (with_reducible first | exact HK.out | apply KeepBut.set_ | apply keep_drewN | apply keep_drew | apply keep_alloc) | exact HK.out)⟩
def bonsairef01_Canon.f (a0 : Int) : Option (Bool) := if (Int.tmod (a0 / 4503599627370496) 2048) = 2047 then (if (Int.tmod a0 4503599627370496) = 0 then (some true) else ((bonsairef01_None.f).bind fun t307 => (some (a0 == t307)))) else (some true)
set_option maxHeartbeats 8000000 in
set_option maxRecDepth 100000 in
theorem bonsairef01_Canon.calls (a0 : Int) (r : Bool) (w : World) (h : bonsairef01_Canon.f a0 = some r) :
    Calls Try.prog 39 #[.int .u64 a0] w fun e w' => e = .returned (.bool r) ∧ Drawn0 w w' := by
  have H : (if (Int.tmod (a0 / 4503599627370496) 2048) = 2047 then (if (Int.tmod a0 4503599627370496) = 0 then (some true) else ((bonsairef01_None.f).bind fun t307 => (some (a0 == t307)))) else (some true)) = some r := h
  clear h
  by_cases c2 : (Int.tmod (a0 / 4503599627370496) 2048) = 2047
  · rw [if_pos c2] at H
    have c2b0 : ((Int.tmod (a0 / 4503599627370496) 2048) == 2047) = true := beq_iff_eq.mpr c2
    have c2b1 : ((Int.tmod (a0 / 4503599627370496) 2048) != 2047) = false := bne_eq_false_iff_eq.mpr c2
    clear c2
    by_cases c3 : (Int.tmod a0 4503599627370496) = 0
    · rw [if_pos c3] at H
      have c3b0 : ((Int.tmod a0 4503599627370496) == 0) = true := beq_iff_eq.mpr c3
      have c3b1 : ((Int.tmod a0 4503599627370496) != 0) = false := bne_eq_false_iff_eq.mpr c3
      clear c3
      obtain rfl := Option.some.inj H
      go_enter Try.func39, Try.ntmps39
      go_wp2
      go_ret
      exact ⟨by first | rfl | (simp; done) | (simp [*]; done), by repeat (first | exact Drawn0.refl _ | apply Drawn0.step)⟩
    · rw [if_neg c3] at H
      have c3b0 : ((Int.tmod a0 4503599627370496) == 0) = false := beq_eq_false_iff_ne.mpr c3
      have c3b1 : ((Int.tmod a0 4503599627370496) != 0) = true := bne_iff_ne.mpr c3
      replace H := Option.bind_eq_some_iff.mp H
      obtain ⟨t307, A40, H⟩ := H
      replace H : (some (a0 == t307)) = some r := H
      have A4 := Aside0.mk A40
      clear A40
      obtain rfl := Option.some.inj H
      go_enter Try.func39, Try.ntmps39
      go_wp2_with (first | (go_at_call 49; (with_reducible refine (bonsairef01_None.calls  t307 _ A4.out).mono ?_); rintro e w' ⟨rfl, ⟨nd, rfl⟩⟩))
      go_ret
      exact ⟨by first | rfl | (simp; done) | (simp [*]; done), by repeat (first | exact Drawn0.refl _ | apply Drawn0.step)⟩
  · rw [if_neg c2] at H
    have c2b0 : ((Int.tmod (a0 / 4503599627370496) 2048) == 2047) = false := beq_eq_false_iff_ne.mpr c2
    have c2b1 : ((Int.tmod (a0 / 4503599627370496) 2048) != 2047) = true := bne_iff_ne.mpr c2
    obtain rfl := Option.some.inj H
    go_enter Try.func39, Try.ntmps39
    go_wp2
    go_ret
    exact ⟨by first | rfl | (simp; done) | (simp [*]; done), by repeat (first | exact Drawn0.refl _ | apply Drawn0.step)⟩
def bonsairef01_Float.f (a0 : Int) : Option Int := if 0 ≤ a0 ∧ a0 < 18446744073709551616 then some (canonF a0.toNat : Nat) else none
theorem inf_ge (s : Bool) : (9223372036854775808 ≤ Fl.inf s) = (s = true) := by cases s <;> simp [Fl.inf]
theorem sgn_dec {x : Nat} {s : Bool} (k3 : (9223372036854775808 ≤ x) = (s = true)) : decide ((x : Int) ≥ 9223372036854775808) = s := by
  cases s
  · exact decide_eq_false (fun h => absurd (k3 ▸ (show 9223372036854775808 ≤ x by omega)) (by decide))
  · have h : 9223372036854775808 ≤ x := by rw [k3]
    exact decide_eq_true (by omega)
set_option maxHeartbeats 8000000 in
set_option maxRecDepth 100000 in
theorem bonsairef01_Float.nan (x : Nat) (w : World) (hx : x < 18446744073709551616) (hn : 9218868437227405312 < x % 9223372036854775808) (f1 : (x : Int) / 4503599627370496 % 2048 = 2047) (f2 : (x : Int) % 4503599627370496 ≠ 0) :
    Calls Try.prog 40 #[.int .u64 (x : Int)] w fun e_ w' => ∃ b0_ : Nat, e_ = .returned (.float .f64 b0_) ∧ FB b0_ (canonF x : Nat) ∧ Below w.heap.size w w' := by
  have hc : canonF x = 9221120237041090560 := by unfold canonF; rw [if_pos hn]
  rw [hc]
  have d1 : decide ((x : Int) / 4503599627370496 % 2048 = 2047) = true := decide_eq_true f1
  have d2 : decide ((x : Int) % 4503599627370496 = 0) = false := decide_eq_false f2
  have q := nan_run Try.prog 28
  go_enter Try.func40, Try.ntmps40
  go_wp2
  go_ret
  exact ⟨_, rfl, FB_nan w, below_drew (Below.refl _ _)⟩
set_option maxHeartbeats 8000000 in
set_option maxRecDepth 100000 in
theorem bonsairef01_Float.inf (x : Nat) (w : World) (hx : x < 18446744073709551616) (s : Bool) (hz : x = Fl.inf s) (f1 : (x : Int) / 4503599627370496 % 2048 = 2047) (f2 : (x : Int) % 4503599627370496 = 0) :
    Calls Try.prog 40 #[.int .u64 (x : Int)] w fun e_ w' => ∃ b0_ : Nat, e_ = .returned (.float .f64 b0_) ∧ FB b0_ (canonF x : Nat) ∧ Below w.heap.size w w' := by
  have hc : canonF x = x := by unfold canonF; rw [hz]; cases s <;> rfl
  rw [hc]
  have d1 : decide ((x : Int) / 4503599627370496 % 2048 = 2047) = true := decide_eq_true f1
  have d2 : decide ((x : Int) % 4503599627370496 = 0) = true := decide_eq_true f2
  have q : ∀ W, (binOp .quo 28 (.float .f64 4607182418800017408) (.float .f64 0)).run Try.prog W = .ok (.float .f64 (Fl.inf false)) W := fun W => run_float_arith W .quo 28 .f64 _ _ _ (by decide)
  have hng := neg_run Try.prog
  have k3 : (9223372036854775808 ≤ x) = (s = true) := by rw [hz]; exact inf_ge s
  have HZ := Aside0.mk hz
  have hng : ∀ W, (Op.unary .neg (.float .f64 (Fl.inf false))).run Try.prog W = .ok (.float .f64 (Fl.inf true)) W := by
    have h : Op.negFloat .f64 (Fl.inf false) = Fl.inf true := by decide
    intro W
    simp only [Op.unary, h, Sem.run_pure]
  cases s
  · have k3' : decide ((x : Int) ≥ 9223372036854775808) = false := sgn_dec k3
    clear hz k3
    go_enter Try.func40, Try.ntmps40
    go_wp2_with (first | (go_at_call 51; (with_reducible refine (ref_top _).mono ?_); rintro e' w1 ⟨rfl, rfl⟩))
    go_ret
    exact ⟨_, rfl, by rw [HZ.out]; exact FB_inf false, Below.refl _ _⟩
  · have k3' : decide ((x : Int) ≥ 9223372036854775808) = true := sgn_dec k3
    clear hz k3
    go_enter Try.func40, Try.ntmps40
    go_wp2_with (first | (go_at_call 51; (with_reducible refine (ref_top _).mono ?_); rintro e' w1 ⟨rfl, rfl⟩))
    go_ret
    exact ⟨_, rfl, by rw [HZ.out]; exact FB_inf true, Below.refl _ _⟩
set_option maxHeartbeats 8000000 in
set_option maxRecDepth 100000 in
theorem bonsairef01_Float.fin (x : Nat) (w : World) (hx : x < 18446744073709551616) (s : Bool) (D : Nat) (N : Int) (hD : D < 9007199254740992) (hN1 : -1074 ≤ N) (hN2 : N ≤ 971) (hz : x = Ieee.double.word s (Fl.R0 D N)) (hle : Fl.R0 D N ≤ 9218868437227405312)
    (hform : ((x : Int) / 4503599627370496 % 2048 = 0 ∧ D = (x % 4503599627370496 : Nat) ∧ N = -1074) ∨ (0 < (x : Int) / 4503599627370496 % 2048 ∧ (x : Int) / 4503599627370496 % 2048 < 2047 ∧ (D : Int) = x % 4503599627370496 + 4503599627370496 ∧ N = (x : Int) / 4503599627370496 % 2048 - 1075)) :
    Calls Try.prog 40 #[.int .u64 (x : Int)] w fun e_ w' => ∃ b0_ : Nat, e_ = .returned (.float .f64 b0_) ∧ FB b0_ (canonF x : Nat) ∧ Below w.heap.size w w' := by
  have hc : canonF x = x := by rw [hz]; exact Fl.canonF_fin s hle
  rw [hc]
  have HZ := Aside0.mk hz
  have k3 := word_ge s (r := Fl.R0 D N) (by omega)
  rw [← hz] at k3
  have hfb : FB x (x : Nat) := by rw [hz]; exact FB_word s hle
  have HFB := Aside0.mk hfb
  have hng : ∀ W, (Op.unary .neg (.float .f64 (Fl.R0 D N))).run Try.prog W = .ok (.float .f64 (Ieee.double.word true (Fl.R0 D N))) W := fun W => by
    have := neg_run Try.prog W false (r := Fl.R0 D N) (by omega)
    rwa [Fl.word_false] at this
  have HNG := Aside0.mk hng
  have fa := float_at hD
  have d1 : ((x : Int) / 4503599627370496 % 2048 == 2047) = false := beq_eq_false_iff_ne.2 (by omega)
  have hsg : decide ((x : Int) ≥ 9223372036854775808) = s := sgn_dec k3
  have hend : Aside0 (FB (if s then Ieee.double.word true (Fl.R0 D N) else Fl.R0 D N) (x : Nat)) := ⟨by
    cases s
    · rw [if_neg (by decide), ← Fl.word_false (Fl.R0 D N), ← hz]
      exact hfb
    · rw [if_pos rfl, ← hz]
      exact hfb⟩
  have hN3 : Aside0 (∃ n, n = -N) := ⟨⟨_, rfl⟩⟩
  clear hz k3 hfb hle hng
  rcases hform with ⟨f1, f2, f3⟩ | ⟨f1, f1', f2, f3⟩
  · have d3 : decide ((x : Int) / 4503599627370496 % 2048 > 0) = false := decide_eq_false (by omega)
    have f2' : (x : Int) % 4503599627370496 = (D : Int) := by omega
    have hn : (1074 : Int) = -N := by omega
    have hNN : Aside0 ((1074 : Int) = -N) := ⟨hn⟩
    clear f2 f3
    go_enter Try.func40, Try.ntmps40
    go_wp2
    rw [hn]
    clear f1 f2' d1 d3 fa hn
    go_loopg [5, 7] 3000 (fun kq v5 v7 w' => ∃ (i : Int), v5 = .float .f64 (Fl.R0 D (-i)) ∧ v7 = .int .i64 i ∧ Aside0 (0 ≤ i ∧ -N - i < kq ∧ (i = 0 ∨ i ≤ -N)) ∧ Aside0 (w' = w))
    case atStart => exact ⟨0, by rfl, by rfl, ⟨by omega⟩, ⟨rfl⟩⟩
    case round =>
      obtain ⟨i, rfl, rfl, HK, HW⟩ := hrel
      have e1 := HW.out
      subst e1
      have hk := HK.out
      by_cases c1 : i < -N
      · cases gk with
        | zero => exact absurd c1 (by omega)
        | succ k2 =>
          have s1 : decide (i < -N) = true := decide_eq_true c1
          have m1 := mulR_at hD (x := -i) (k := -1) (by omega) (by omega) (by omega) (by omega) (by omega)
          rw [rung_m1] at m1
          have rw2 : IntKind.i64.wrap (i + 1) = i + 1 := by rw [IntKind.wrap_i64]; omega
          go_wp2
          go_roundg k2
          case measure => omega
          case rel => exact ⟨i + 1, by rw [show -(i + 1) = -i + -1 by omega], by first | rfl | simp [goInt, rw2], ⟨by omega⟩, ⟨rfl⟩⟩
      · have s1 : decide (i < -N) = false := decide_eq_false c1
        obtain ⟨x0, hx0⟩ : ∃ x0, x0 = -i := ⟨_, rfl⟩
        rw [← hx0]
        have hx1 : Aside0 (x0 = if N ≤ 0 then N else 0) := ⟨by split <;> omega⟩
        clear hx0
        have rwn : IntKind.i64.wrap (-(-N)) = N := by rw [IntKind.wrap_i64]; omega
        go_wp2
        go_loopg [5, 8] 3000 (fun kq v5 v8 w' => ∃ (j : Int), v5 = .float .f64 (Fl.R0 D (x0 + j)) ∧ v8 = .int .i64 j ∧ Aside0 (0 ≤ j ∧ N - j < kq ∧ (j = 0 ∨ j ≤ N)) ∧ Aside0 (w' = wr))
        case atStart => exact ⟨0, by rw [Int.add_zero], by rfl, ⟨by omega⟩, ⟨rfl⟩⟩
        case round =>
            clear HK HW hk c1 s1
            obtain ⟨j, rfl, rfl, HK, HW⟩ := hrel
            have e1 := HW.out
            subst e1
            have hk := HK.out
            have h1 := hx1.out
            by_cases c1 : j < N
            · cases gk with
              | zero => exact absurd c1 (by omega)
              | succ k2 =>
                have s1 : decide (j < N) = true := decide_eq_true c1
                have m1 := mulR_at hD (x := x0 + j) (k := 1) (by split at h1 <;> omega) (by split at h1 <;> omega) (by omega) (by omega) (by split at h1 <;> omega)
                rw [rung_1] at m1
                have rw2 : IntKind.i64.wrap (j + 1) = j + 1 := by rw [IntKind.wrap_i64]; omega
                clear h1
                go_wp2
                go_roundg k2
                case measure => omega
                case rel => exact ⟨j + 1, by rw [show x0 + (j + 1) = x0 + j + 1 by omega], by first | rfl | simp [goInt, rw2], ⟨by omega⟩, ⟨rfl⟩⟩
            · have s1 : decide (j < N) = false := decide_eq_false c1
              have hxN : x0 + j = N := by split at h1 <;> omega
              rw [hxN]
              clear h1 hxN
              have hng := HNG.out
              have he := hend.out
              cases s
              · go_wp2_with (first | (go_at_call 51; (with_reducible refine (ref_top _).mono ?_); rintro e' w1 ⟨rfl, rfl⟩))
                go_ret
                exact ⟨_, rfl, by (first | rw [if_pos trivial] at he | rw [if_pos rfl] at he | rw [if_neg (by decide)] at he); exact he, Below.refl _ _⟩
              · go_wp2_with (first | (go_at_call 51; (with_reducible refine (ref_top _).mono ?_); rintro e' w1 ⟨rfl, rfl⟩))
                go_ret
                exact ⟨_, rfl, by (first | rw [if_pos trivial] at he | rw [if_pos rfl] at he | rw [if_neg (by decide)] at he); exact he, Below.refl _ _⟩
  · have d3 : decide ((x : Int) / 4503599627370496 % 2048 > 0) = true := decide_eq_true f1
    have f2' : (x : Int) % 4503599627370496 + 4503599627370496 = (D : Int) := by omega
    have hw : IntKind.u64.wrap ((D : Int)) = (D : Int) := by rw [IntKind.wrap_u64]; omega
    have hn' : 1075 - (x : Int) / 4503599627370496 % 2048 = -N := by omega
    clear f2 f3
    go_enter Try.func40, Try.ntmps40
    go_wp2
    clear f1 f1' f2' d1 d3 fa hw hn'
    go_loopg [5, 7] 3000 (fun kq v5 v7 w' => ∃ (i : Int), v5 = .float .f64 (Fl.R0 D (-i)) ∧ v7 = .int .i64 i ∧ Aside0 (0 ≤ i ∧ -N - i < kq ∧ (i = 0 ∨ i ≤ -N)) ∧ Aside0 (w' = w))
    case atStart => exact ⟨0, by rfl, by rfl, ⟨by omega⟩, ⟨rfl⟩⟩
    case round =>
      obtain ⟨i, rfl, rfl, HK, HW⟩ := hrel
      have e1 := HW.out
      subst e1
      have hk := HK.out
      by_cases c1 : i < -N
      · cases gk with
        | zero => exact absurd c1 (by omega)
        | succ k2 =>
          have s1 : decide (i < -N) = true := decide_eq_true c1
          have m1 := mulR_at hD (x := -i) (k := -1) (by omega) (by omega) (by omega) (by omega) (by omega)
          rw [rung_m1] at m1
          have rw2 : IntKind.i64.wrap (i + 1) = i + 1 := by rw [IntKind.wrap_i64]; omega
          go_wp2
          go_roundg k2
          case measure => omega
          case rel => exact ⟨i + 1, by rw [show -(i + 1) = -i + -1 by omega], by first | rfl | simp [goInt, rw2], ⟨by omega⟩, ⟨rfl⟩⟩
      · have s1 : decide (i < -N) = false := decide_eq_false c1
        obtain ⟨x0, hx0⟩ : ∃ x0, x0 = -i := ⟨_, rfl⟩
        rw [← hx0]
        have hx1 : Aside0 (x0 = if N ≤ 0 then N else 0) := ⟨by split <;> omega⟩
        clear hx0
        have rwn : IntKind.i64.wrap (-(-N)) = N := by rw [IntKind.wrap_i64]; omega
        go_wp2
        go_loopg [5, 8] 3000 (fun kq v5 v8 w' => ∃ (j : Int), v5 = .float .f64 (Fl.R0 D (x0 + j)) ∧ v8 = .int .i64 j ∧ Aside0 (0 ≤ j ∧ N - j < kq ∧ (j = 0 ∨ j ≤ N)) ∧ Aside0 (w' = wr))
        case atStart => exact ⟨0, by rw [Int.add_zero], by rfl, ⟨by omega⟩, ⟨rfl⟩⟩
        case round =>
            clear HK HW hk c1 s1
            obtain ⟨j, rfl, rfl, HK, HW⟩ := hrel
            have e1 := HW.out
            subst e1
            have hk := HK.out
            have h1 := hx1.out
            by_cases c1 : j < N
            · cases gk with
              | zero => exact absurd c1 (by omega)
              | succ k2 =>
                have s1 : decide (j < N) = true := decide_eq_true c1
                have m1 := mulR_at hD (x := x0 + j) (k := 1) (by split at h1 <;> omega) (by split at h1 <;> omega) (by omega) (by omega) (by split at h1 <;> omega)
                rw [rung_1] at m1
                have rw2 : IntKind.i64.wrap (j + 1) = j + 1 := by rw [IntKind.wrap_i64]; omega
                clear h1
                go_wp2
                go_roundg k2
                case measure => omega
                case rel => exact ⟨j + 1, by rw [show x0 + (j + 1) = x0 + j + 1 by omega], by first | rfl | simp [goInt, rw2], ⟨by omega⟩, ⟨rfl⟩⟩
            · have s1 : decide (j < N) = false := decide_eq_false c1
              have hxN : x0 + j = N := by split at h1 <;> omega
              rw [hxN]
              clear h1 hxN
              have hng := HNG.out
              have he := hend.out
              cases s
              · go_wp2_with (first | (go_at_call 51; (with_reducible refine (ref_top _).mono ?_); rintro e' w1 ⟨rfl, rfl⟩))
                go_ret
                exact ⟨_, rfl, by (first | rw [if_pos trivial] at he | rw [if_pos rfl] at he | rw [if_neg (by decide)] at he); exact he, Below.refl _ _⟩
              · go_wp2_with (first | (go_at_call 51; (with_reducible refine (ref_top _).mono ?_); rintro e' w1 ⟨rfl, rfl⟩))
                go_ret
                exact ⟨_, rfl, by (first | rw [if_pos trivial] at he | rw [if_pos rfl] at he | rw [if_neg (by decide)] at he); exact he, Below.refl _ _⟩
theorem bonsairef01_Float.calls (a0 : Int) (r : Int) (w : World) (h : bonsairef01_Float.f a0 = some r) :
    Calls Try.prog 40 #[.int .u64 a0] w fun e_ w' => ∃ b0_ : Nat, e_ = .returned (.float .f64 b0_) ∧ FB b0_ r ∧ Below w.heap.size w w' := by
  unfold bonsairef01_Float.f at h
  by_cases ha : 0 ≤ a0 ∧ a0 < 18446744073709551616
  case neg => rw [if_neg ha] at h; exact absurd h (by simp)
  rw [if_pos ha] at h
  obtain rfl := Option.some.inj h
  clear h
  obtain ⟨x, rfl⟩ : ∃ x : Nat, a0 = x := ⟨a0.toNat, by omega⟩
  rw [Int.toNat_natCast]
  have hx : x < 18446744073709551616 := by omega
  rcases fields_of x hx with ⟨hn, f1, f2⟩ | ⟨s, hz, f1, f2⟩ | ⟨s, D, N, hD, hN1, hN2, hz, hle, hform⟩
  · exact bonsairef01_Float.nan x w hx hn f1 f2
  · exact bonsairef01_Float.inf x w hx s hz f1 f2
  · exact bonsairef01_Float.fin x w hx s D N hD hN1 hN2 hz hle hform
end Go.Proofs.Ytfgnjndfnijjoaa.Print
end
