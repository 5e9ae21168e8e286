/- Part 6 of what RowsReads stands on: merged by a program of this session out of its texts. -/
import Derived.Test.YtfgnjndfnijjoaaCRowsReads5
section
namespace Go.Proofs.Ytfgnjndfnijjoaa.LibB
open Go.RowKit Go.Proofs.Ytfgnjndfnijjoaa.Print Go.Proofs.YtfgnjndfnijjoaaW.PrintWords Go.Proofs.YtfgnjndfnijjoaaW.PrintLast Go.Proofs.YtfgnjndfnijjoaaW.PrintMore Go.Proofs.Ytfgnjndfnijjoaa.LibA
theorem w64 {n : Int} (h0 : -9223372036854775808 ≤ n) (h1 : n ≤ 9223372036854775807) : wrap64 n = n := by unfold wrap64; omega
theorem sign_at {s : ByteArray} {i m : Int} (h0 : 0 ≤ i) (hs : s.size ≤ 140737488351232) (h : SgAt s i m) : bonsairef04_sign.f s i = some m := by
  have := h.pos
  unfold bonsairef04_sign.f
  rw [if_pos ⟨h0, by omega, by omega⟩, sgStep_some.mpr h]
  rfl
theorem sign_none {s : ByteArray} {i : Int} (h0 : 0 ≤ i) (hi : i < s.size) (hs : s.size ≤ 140737488351232) (h : ∀ m, ¬ SgAt s i m) : bonsairef04_sign.f s i = some 0 := by
  unfold bonsairef04_sign.f
  rw [if_pos ⟨h0, hi, by omega⟩]
  cases hh : sgStep s i with
  | none => rfl
  | some m => exact absurd (sgStep_some.mp hh) (h m)
theorem first_l {s : ByteArray} (hs : s.size ≤ 140737488351232) {c : Nat} {i j : Int} (h : Ch s c i j) : ∀ k, 0 ≤ i → j ≤ s.size → (∀ m, ¬ SgAt s j m) → bonsairef04_First.l0 (c + 1 + k) s i = some (if j < s.size then (j, true) else (0, false)) := by
  induction h with
  | nil i =>
    intro k h0 hj hn
    rw [show 0 + 1 + k = k + 1 by omega]
    simp only [bonsairef04_First.l0]
    by_cases hi : i < (s.size : Int)
    · rw [if_pos hi, if_pos hi, sign_none h0 hi hs hn]
      rfl
    · rw [if_neg hi, if_neg hi]
  | @cons n i m j h t ih =>
    intro k h0 hj hn
    have hp := h.pos
    rw [show n + 1 + 1 + k = (n + 1 + k) + 1 by omega]
    simp only [bonsairef04_First.l0]
    rw [if_pos (by omega), sign_at h0 hs h]
    simp only [Option.bind_some]
    rw [if_neg (by omega), w64 (by omega) (by omega)]
    exact ih k (by omega) hj hn
structure Tells (s : ByteArray) (c : Nat) (j : Int) : Prop where
  signs : word_signs.f s = some ((c : Int), j)
  ch : Ch s c 0 j
  lo : 0 ≤ j
  hi : j ≤ s.size
  stop : ∀ m, ¬ SgAt s j m
  few : (c : Int) ≤ j
theorem tells (s : ByteArray) (hs : s.size ≤ 140737488351232) : ∃ c j, Tells s c j := by
  obtain ⟨c, j, h, hc, h0, hj, hn⟩ := signs_ch s
  exact ⟨c, j, by unfold word_signs.f; rw [if_pos (by omega), h], hc, h0, hj, hn, by have := hc.le; omega⟩
theorem Tells.vld {s : ByteArray} {c : Nat} {j : Int} (t : Tells s c j) : Vld s ↔ j = s.size := vld_iff t.ch t.stop t.hi
noncomputable instance (s : ByteArray) : Decidable (Vld s) := Classical.propDecidable _
theorem Tells.wordValid {s : ByteArray} {c : Nat} {j : Int} (t : Tells s c j) : word_Valid.f s = some (decide (Vld s)) := by
  unfold word_Valid.f
  rw [t.signs]
  simp only [Option.bind_some]
  congr 1
  by_cases h : j = (s.size : Int)
  · simp [h, t.vld]
  · simp [h, t.vld]
theorem wordValid (s : ByteArray) (hs : s.size ≤ 140737488351232) : word_Valid.f s = some (decide (Vld s)) := by
  obtain ⟨c, j, t⟩ := tells s hs
  exact t.wordValid
theorem Tells.refValid {s : ByteArray} {c : Nat} {j : Int} (t : Tells s c j) (hs : s.size ≤ 140737488351232) (k : Nat) : bonsairef04_Valid.f (c + 1 + k) s = word_Valid.f s := by
  unfold bonsairef04_Valid.f
  rw [show bonsairef04_First.f (c + 1 + k) s = some (if j < s.size then (j, true) else (0, false)) from first_l hs t.ch k (by omega) t.hi t.stop, t.wordValid]
  simp only [Option.bind_some]
  congr 1
  have := t.hi
  by_cases h : j < (s.size : Int)
  · rw [if_pos h]; simp [t.vld]; omega
  · rw [if_neg h]; simp [t.vld]; omega
end Go.Proofs.Ytfgnjndfnijjoaa.LibB
end
section
namespace Go.Proofs.Ytfgnjndfnijjoaa.LibC
open Go.RowKit Go.Proofs.Ytfgnjndfnijjoaa.Print Go.Proofs.YtfgnjndfnijjoaaW.PrintWords Go.Proofs.YtfgnjndfnijjoaaW.PrintLast Go.Proofs.YtfgnjndfnijjoaaW.PrintMore Go.Proofs.Ytfgnjndfnijjoaa.LibA Go.Proofs.Ytfgnjndfnijjoaa.LibB
def putL : Nat → Int → List Int
  | 0, x => [x]
  | d + 1, x => if x ≥ 128 then (x % 128 + 128) :: putL d (x / 128) else [x]
end Go.Proofs.Ytfgnjndfnijjoaa.LibC
end
section
namespace Go.Proofs.Ytfgnjndfnijjoaa.LibD
open Go.RowKit Go.Proofs.Ytfgnjndfnijjoaa.Print Go.Proofs.YtfgnjndfnijjoaaW.PrintWords Go.Proofs.YtfgnjndfnijjoaaW.PrintLast Go.Proofs.YtfgnjndfnijjoaaW.PrintMore Go.Proofs.Ytfgnjndfnijjoaa.LibA Go.Proofs.Ytfgnjndfnijjoaa.LibB Go.Proofs.Ytfgnjndfnijjoaa.LibC
def numRef (R : Int × Int × Int) (S : ByteArray) (at_ : Int) : Int × ByteArray × Int × Int := if R.1 = 0 then (R.2.1, S, at_ + R.2.2, 0) else (0, S, at_, R.1)
theorem num_l (S s : ByteArray) (a : Int) (ha : 0 ≤ a) (hS : S.size ≤ 140737488351232) (hs : (S.size : Int) = a + s.size) (hb : ∀ d : Int, 0 ≤ d → d < s.size → bt S (a + d) = bt s d) :
    ∀ (d : Nat) (i n : Int) (k : Nat), i + (d + 1 : Nat) = 10 → 0 ≤ i → i ≤ s.size → 0 ≤ n → n < 128 ^ i.toNat →
      bonsairef03_Reader_Num.l0 (3 * (d + 1) + k) n (128 ^ i.toNat) i S a 0 = some (numRef (numL s (d + 1) i n) S a)
  | d, i, n, k, hd, hi0, his, hn0, hn => by
    rw [show 3 * (d + 1) + k = (((3 * d + k) + 1) + 1) + 1 by omega]
    simp only [bonsairef03_Reader_Num.l0, bonsairef03_Reader_Num.j1, numL]
    rw [if_pos (by omega), w64 (show -9223372036854775808 ≤ a + i by omega) (by omega)]
    simp only [BEq.rfl, if_true]
    by_cases hlt : i < (s.size : Int)
    · rw [if_neg (by omega), if_pos (by omega), if_pos (by omega), if_pos hlt, hb i hi0 hlt]
      have hr := bt_range s i
      rw [pack_wraps_u64 _ hr.1 (by omega)]
      by_cases hok : (i < 9 ∨ bt s i ≤ 1) ∧ (i = 0 ∨ bt s i ≠ 0)
      · rw [if_pos hok]
        have hj : ∀ X : Bool, X = false → (bonsairef03_Reader_Num.j2 (3 * d + k + 1) n (128 ^ i.toNat) i (bt s i) X S a 0 = some (numRef (if bt s i < 128 then (0, n + bt s i % 128 * 128 ^ i.toNat, i + 1) else numL s d (i + 1) (n + bt s i % 128 * 128 ^ i.toNat)) S a)) := by
          rintro X rfl
          simp only [bonsairef03_Reader_Num.j2, Bool.false_eq_true, if_false]
          obtain ⟨_, h64⟩ := num_step i (bt s i) n hi0 (by omega) hr.1 hr.2 hok.1 hn0 hn
          have hm0 : 0 ≤ bt s i % 128 * 128 ^ i.toNat := Int.mul_nonneg (by omega) (by have := (pack_pow9 i (by omega)).2; omega)
          rw [Int.tmod_eq_emod_of_nonneg hr.1, pack_wraps_u64 (bt s i % 128 * 128 ^ i.toNat) hm0 (by omega), pack_wraps_u64 (n + _) (by omega) h64]
          by_cases hb1 : bt s i < 128
          · rw [if_pos hb1, if_pos hb1, w64 (show -9223372036854775808 ≤ a + i by omega) (by omega), w64 (show -9223372036854775808 ≤ a + i + 1 by omega) (by omega)]
            simp only [numRef, if_true]
            congr 4
            omega
          · rw [if_neg hb1, if_neg hb1]
            have h9 : i < 9 := by omega
            cases d with
            | zero => omega
            | succ d =>
              have hp : bt s i % 128 * 128 ^ i.toNat ≤ 127 * 128 ^ i.toNat := Int.mul_le_mul_of_nonneg_right (by omega) (by have := (pack_pow9 i (by omega)).2; omega)
              have he : (128 : Int) ^ (i + 1).toNat = 128 ^ i.toNat * 128 := by rw [show (i + 1).toNat = i.toNat + 1 by omega, Int.pow_succ]
              have h8 := pack_pow8 i (by omega)
              have hq := (pack_pow9 i (by omega)).2
              rw [pack_wraps_u64 (128 ^ i.toNat * 128) (by omega) (by omega), w64 (by omega) (by omega), ← he]
              exact num_l S s a ha hS hs hb d (i + 1) _ k (by omega) (by omega) (by omega) (by omega) (by omega)
        by_cases h9 : i = 9
        · rw [if_pos h9, if_neg (by omega), if_pos (by omega)]
          exact hj _ (by simp; omega)
        · rw [if_neg h9]
          by_cases h0 : i > 0
          · rw [if_pos h0]
            exact hj _ (by simp; omega)
          · rw [if_neg h0]
            exact hj _ rfl
      · rw [if_neg hok]
        have hj : ∀ X : Bool, X = true → bonsairef03_Reader_Num.j2 (3 * d + k + 1) n (128 ^ i.toNat) i (bt s i) X S a 0 = some (numRef (3, 0, 0) S a) := by
          rintro X rfl
          simp only [bonsairef03_Reader_Num.j2, if_true, numRef]
          rfl
        by_cases h9 : i = 9
        · rw [if_pos h9]
          by_cases hb1 : bt s i > 1
          · rw [if_pos hb1]
            exact hj _ rfl
          · rw [if_neg hb1, if_pos (by omega)]
            exact hj _ (by simp; omega)
        · rw [if_neg h9, if_pos (by omega)]
          exact hj _ (by simp; omega)
    · rw [if_pos (by omega), if_neg hlt]
      rfl
structure Sim (S : ByteArray) (a : Int) (r : ByteArray) : Prop where
  big : S.size ≤ 140737488351232
  lo : 0 ≤ a
  size : (S.size : Int) = a + r.size
  rest : r = S.extract a.toNat S.size
theorem Sim.byte {S r : ByteArray} {a : Int} (h : Sim S a r) (d : Int) (h0 : 0 ≤ d) (h1 : d < r.size) : bt S (a + d) = bt r d := by
  have := h.size
  have := h.lo
  rw [h.rest, bt_drop (Nat.le_refl _) h0 (by omega)]
  congr 1
  omega
theorem Sim.begin (S : ByteArray) (hS : S.size ≤ 140737488351232) (a : Int) (h0 : 0 ≤ a) (h1 : a ≤ S.size) : Sim S a (S.extract a.toNat S.size) :=
  ⟨hS, h0, by rw [ByteArray.size_extract]; omega, rfl⟩
theorem Sim.go {S r : ByteArray} {a : Int} (h : Sim S a r) (n : Int) (h0 : 0 ≤ n) (h1 : n ≤ r.size) : Sim S (a + n) (r.extract n.toNat r.size) := by
  have := h.size
  have := h.lo
  refine ⟨h.big, by omega, by rw [ByteArray.size_extract]; omega, ?_⟩
  conv => lhs; rw [h.rest]
  rw [ByteArray.extract_extract]
  congr 1
  · omega
  · rw [ByteArray.size_extract]; omega
theorem numL_is (s : ByteArray) : ∀ (d : Nat) (i n : Int), i + (d : Nat) = 10 → 0 ≤ i → i ≤ s.size → 0 ≤ n → n < 128 ^ i.toNat →
    ((numL s d i n).1 = 0 → 0 ≤ (numL s d i n).2.1 ∧ (numL s d i n).2.1 < 18446744073709551616 ∧ i < (numL s d i n).2.2 ∧ (numL s d i n).2.2 ≤ s.size) ∧ ((numL s d i n).1 = 0 ∨ (numL s d i n).1 = 2 ∨ (numL s d i n).1 = 3)
  | 0, i, n, _, _, _, _, _ => by simp [numL]
  | d + 1, i, n, hd, hi0, his, hn0, hn => by
    have hr := bt_range s i
    simp only [numL]
    by_cases hlt : i < (s.size : Int)
    · rw [if_pos hlt]
      by_cases hok : (i < 9 ∨ bt s i ≤ 1) ∧ (i = 0 ∨ bt s i ≠ 0)
      · rw [if_pos hok]
        obtain ⟨_, h64⟩ := num_step i (bt s i) n hi0 (by omega) hr.1 hr.2 hok.1 hn0 hn
        have hm0 : 0 ≤ bt s i % 128 * 128 ^ i.toNat := Int.mul_nonneg (by omega) (by have := (pack_pow9 i (by omega)).2; omega)
        by_cases hb1 : bt s i < 128
        · rw [if_pos hb1]
          exact ⟨fun _ => ⟨by show 0 ≤ n + _; omega, by show n + _ < _; omega, by show i < i + 1; omega, by show i + 1 ≤ _; omega⟩, .inl rfl⟩
        · rw [if_neg hb1]
          have hp : bt s i % 128 * 128 ^ i.toNat ≤ 127 * 128 ^ i.toNat := Int.mul_le_mul_of_nonneg_right (by omega) (by have := (pack_pow9 i (by omega)).2; omega)
          have he : (128 : Int) ^ (i + 1).toNat = 128 ^ i.toNat * 128 := by rw [show (i + 1).toNat = i.toNat + 1 by omega, Int.pow_succ]
          have := numL_is s d (i + 1) (n + bt s i % 128 * 128 ^ i.toNat) (by omega) (by omega) (by omega) (by omega) (by omega)
          exact ⟨fun h => by have := this.1 h; omega, this.2⟩
      · rw [if_neg hok]
        exact ⟨(fun h => by cases h), .inr (.inr rfl)⟩
    · rw [if_neg hlt]
      exact ⟨(fun h => by cases h), .inr (.inl rfl)⟩
theorem Sim.num {S r : ByteArray} {a : Int} (h : Sim S a r) (e : Int) : ∃ (v : Int) (r' : ByteArray) (e' a' : Int), pack_Reader_Num.f r e = some (v, r', e') ∧ (∀ k, 30 ≤ k → bonsairef03_Reader_Num.f k S a e = some (v, S, a', e')) ∧ Sim S a' r' ∧ 0 ≤ v ∧ v < 18446744073709551616 ∧
    (e ≠ 0 → v = 0 ∧ e' = e ∧ r' = r ∧ a' = a) ∧ (e = 0 → e' = 0 ∨ e' = 2 ∨ e' = 3) ∧ (e' = 0 → a < a') ∧ (e' ≠ 0 → v = 0 ∧ r' = r ∧ a' = a) := by
  have hsz := h.size
  have hlo := h.lo
  have hbig := h.big
  have hrs : r.size ≤ 9223372036854775000 := by omega
  by_cases he : e = 0
  · subst he
    have hk : ∀ k, 30 ≤ k → bonsairef03_Reader_Num.f k S a 0 = some (numRef (numL r 10 0 0) S a) := fun k hk => by
      have := num_l S r a h.lo h.big h.size h.byte 9 0 0 (k - 30) (by omega) (by omega) (by omega) (by omega) (by decide)
      rw [show 3 * (9 + 1) + (k - 30) = k by omega] at this
      exact this
    obtain ⟨hn1, hn2⟩ := numL_is r 10 0 0 (by omega) (by omega) (by omega) (by omega) (by decide)
    unfold pack_Reader_Num.f
    rw [if_pos hrs, if_pos rfl]
    by_cases hR : (numL r 10 0 0).1 = 0
    · have hn := hn1 hR
      refine ⟨_, _, _, a + (numL r 10 0 0).2.2, by rw [if_pos hR], fun k h' => by rw [hk k h']; unfold numRef; rw [if_pos hR], h.go _ (by omega) (by omega), hn.1, hn.2.1, fun h => absurd rfl h, fun _ => .inl rfl, fun _ => by omega, fun h => absurd rfl h⟩
    · refine ⟨_, _, _, a, by rw [if_neg hR], fun k h' => by rw [hk k h']; unfold numRef; rw [if_neg hR], h, by omega, by omega, fun h => absurd rfl h, fun _ => by omega, fun h => absurd h hR, fun _ => ⟨rfl, rfl, rfl⟩⟩
  · refine ⟨0, r, e, a, by unfold pack_Reader_Num.f; rw [if_pos hrs, if_neg he], fun k hk => ?_, h, by omega, by omega, fun _ => ⟨rfl, rfl, rfl, rfl⟩, fun h => absurd h he, fun h => absurd h he, fun _ => ⟨rfl, rfl, rfl⟩⟩
    obtain ⟨k, rfl⟩ : ∃ m, k = m + 2 := ⟨k - 2, by omega⟩
    unfold bonsairef03_Reader_Num.f
    simp only [bonsairef03_Reader_Num.l0, bonsairef03_Reader_Num.j1]
    rw [if_pos (by omega), if_neg (by simpa using he)]
theorem Sim.left {S r : ByteArray} {a : Int} (h : Sim S a r) (e : Int) : pack_Reader_Left.f r e = some ((r.size : Int), r, e) ∧ bonsairef03_Reader_Left.f S a e = some ((r.size : Int), S, a, e) := by
  have := h.size
  have := h.lo
  have := h.big
  exact ⟨rfl, by unfold bonsairef03_Reader_Left.f; rw [w64 (by omega) (by omega)]; congr 2; omega⟩
theorem Sim.take {S r : ByteArray} {a : Int} (h : Sim S a r) (n : Int) (h0 : 0 ≤ n) (h1 : n ≤ r.size) : pack_Reader_Take.f r 0 n = some (r.extract 0 n.toNat, r.extract n.toNat r.size, 0) ∧
    (∀ k, 1 ≤ k → bonsairef03_Reader_Take.f k S a 0 n = some (r.extract 0 n.toNat, S, a + n, 0)) := by
  have hsz := h.size
  have hlo := h.lo
  have hbig := h.big
  refine ⟨by unfold pack_Reader_Take.f; rw [if_pos rfl, if_pos ⟨h0, h1⟩], fun k hk => ?_⟩
  obtain ⟨k, rfl⟩ : ∃ m, k = m + 1 := ⟨k - 1, by omega⟩
  unfold bonsairef03_Reader_Take.f
  rw [if_pos rfl, if_neg (by omega), w64 (show -9223372036854775808 ≤ (S.size : Int) - a by omega) (by omega)]
  simp only [bonsairef03_Reader_Take.j0]
  rw [if_neg (by simp; omega), if_pos trivial, w64 (show -9223372036854775808 ≤ a + n by omega) (by omega), w64 (show -9223372036854775808 ≤ a + n - n by omega) (by omega), if_pos (by omega), if_pos (by omega), if_pos (by omega)]
  congr 2
  conv => rhs; rw [h.rest]
  rw [ByteArray.extract_extract]
  congr 1
  · omega
  · omega
end Go.Proofs.Ytfgnjndfnijjoaa.LibD
end
section
namespace Go.Proofs.Ytfgnjndfnijjoaa.LibE
open Go.RowKit Go.Proofs.Ytfgnjndfnijjoaa.Print Go.Proofs.YtfgnjndfnijjoaaW.PrintWords Go.Proofs.YtfgnjndfnijjoaaW.PrintLast Go.Proofs.YtfgnjndfnijjoaaW.PrintMore Go.Proofs.Ytfgnjndfnijjoaa.LibA Go.Proofs.Ytfgnjndfnijjoaa.LibB Go.Proofs.Ytfgnjndfnijjoaa.LibC Go.Proofs.Ytfgnjndfnijjoaa.LibD
def noText : ByteArray := ⟨#[]⟩
theorem refValid (s : ByteArray) (hs : s.size ≤ 140737488351232) (k : Nat) (hk : s.size + 1 ≤ k) : bonsairef04_Valid.f k s = some (decide (Vld s)) := by
  obtain ⟨c, j, t⟩ := tells s hs
  have hc : c ≤ s.size := by have := t.few; have := t.hi; omega
  have := t.refValid hs (k - (c + 1))
  rw [show c + 1 + (k - (c + 1)) = k by omega, t.wordValid] at this
  exact this
theorem take_both (s : ByteArray) (hs : s.size ≤ 140737488351232) (a most : Int) (hm0 : -9223372036854775808 ≤ most) (hm1 : most ≤ 9223372036854775807) :
    ∃ (t : ByteArray) (b e : Int), (∀ k, s.size + 60 ≤ k → word_Take.f k s a most = some (t, b, e) ∧ bonsairef04_Take.f k s a most = some (t, b, e)) ∧
      (e ≠ 0 → t = noText ∧ b = 0) ∧
      (e = 0 → 0 ≤ a ∧ ∃ v n : Int, Vld t ∧ 0 ≤ n ∧ n ≤ most ∧ (t.size : Int) = n ∧ a < b - n ∧ b ≤ s.size ∧ t = s.extract (b - n).toNat b.toNat ∧ pack_Reader_Num.f (s.extract a.toNat s.size) 0 = some (n, s.extract v.toNat s.size, 0) ∧ v = b - n) := by
  by_cases ha : a < 0 ∨ (s.size : Int) < a
  · refine ⟨noText, 0, 1, fun k hk => ?_, fun _ => ⟨rfl, rfl⟩, fun h => absurd h (by decide)⟩
    obtain ⟨k, rfl⟩ : ∃ m, k = m + 1 := ⟨k - 1, by omega⟩
    unfold word_Take.f bonsairef04_Take.f
    by_cases h : a < 0
    · rw [if_pos h, if_pos h]
      simp only [word_Take.j0, bonsairef04_Take.j0, if_true]
      exact ⟨rfl, rfl⟩
    · rw [if_neg h, if_neg h, decide_eq_true (show a > (s.size : Int) by omega)]
      simp only [word_Take.j0, bonsairef04_Take.j0, if_true]
      exact ⟨rfl, rfl⟩
  have hS := Sim.begin s hs a (by omega) (by omega)
  obtain ⟨v, r', e', a', hp, hr, hS', hv0, hv1, _, he2, he3, he4⟩ := hS.num 0
  have hfin : ∀ k, 2 ≤ k → ∃ m, k = m + 2 := fun k hk => ⟨k - 2, by omega⟩
  have start : ∀ k, word_Take.f (k + 2) s a most = word_Take.j0 (k + 2) s a most false ∧ bonsairef04_Take.f (k + 2) s a most = bonsairef04_Take.j0 (k + 2) s a most false := fun k => by
    unfold word_Take.f bonsairef04_Take.f
    rw [if_neg (by omega), if_neg (by omega), decide_eq_false (show ¬ a > (s.size : Int) by omega)]
    exact ⟨rfl, rfl⟩
  by_cases he : e' = 0
  · subst he
    have hsz' := hS'.size
    have hlo' := hS'.lo
    have hr's : r'.size ≤ s.size := by omega
    by_cases hbig : most < 0 ∨ v > IntKind.u64.wrap most
    · refine ⟨noText, 0, 10, fun k hk => ?_, fun _ => ⟨rfl, rfl⟩, fun h => absurd h (by decide)⟩
      obtain ⟨k, rfl⟩ := hfin k (by omega)
      rw [(start k).1, (start k).2]
      simp only [word_Take.j0, bonsairef04_Take.j0, word_Take.j1, bonsairef04_Take.j1, Bool.false_eq_true, if_false, pack_New.f, Option.bind_some]
      rw [if_pos (by omega), if_pos (by omega), hp, hr (k + 1) (by omega)]
      simp only [Option.bind_some, pack_Reader_Err.f, if_true]
      by_cases hm : most < 0
      · rw [if_pos hm, if_pos hm]; exact ⟨rfl, rfl⟩
      · rw [if_neg hm, if_neg hm, decide_eq_true (show v > IntKind.u64.wrap most by omega)]; simp only [if_true]; exact ⟨rfl, rfl⟩
    · have hw : IntKind.u64.wrap most = most := pack_wraps_u64 most (by omega) (by omega)
      have hl := hS'.left 0
      have hwl : IntKind.u64.wrap (r'.size : Int) = r'.size := pack_wraps_u64 _ (by omega) (by omega)
      have go : ∀ k, word_Take.f (k + 2) s a most = word_Take.j1 (k + 1) s v false r' 0 ∧ (30 ≤ k → bonsairef04_Take.f (k + 2) s a most = bonsairef04_Take.j1 (k + 1) v false s a' 0) := fun k => by
        rw [(start k).1, (start k).2]
        simp only [word_Take.j0, bonsairef04_Take.j0, Bool.false_eq_true, if_false, pack_New.f, Option.bind_some]
        rw [if_pos (by omega), if_pos (by omega), hp]
        simp only [Option.bind_some, pack_Reader_Err.f, if_true]
        rw [if_neg (show ¬ most < 0 by omega), decide_eq_false (show ¬ v > IntKind.u64.wrap most by omega)]
        refine ⟨rfl, fun h => ?_⟩
        rw [hr (k + 1) (by omega)]
        simp only [Option.bind_some, if_true]
        rw [if_neg (show ¬ most < 0 by omega), decide_eq_false (show ¬ v > IntKind.u64.wrap most by omega)]
      by_cases hcut : v > (r'.size : Int)
      · refine ⟨noText, 0, 2, fun k hk => ?_, fun _ => ⟨rfl, rfl⟩, fun h => absurd h (by decide)⟩
        obtain ⟨k, rfl⟩ := hfin k (by omega)
        rw [(go k).1, (go k).2 (by omega)]
        simp only [word_Take.j1, bonsairef04_Take.j1, Bool.false_eq_true, if_false]
        rw [hl.1, hl.2]
        simp only [Option.bind_some]
        rw [hwl, if_pos hcut, if_pos hcut]
        exact ⟨rfl, rfl⟩
      · obtain ⟨t1, t2⟩ := hS'.take v hv0 (by omega)
        have hS2 := hS'.go v hv0 (by omega)
        have hl2 := hS2.left 0
        have hts : (r'.extract 0 v.toNat).size = v.toNat := size_take (by omega)
        have hvs : v.toNat ≤ s.size := by omega
        have hwv : word_Valid.f (r'.extract 0 v.toNat) = some (decide (Vld (r'.extract 0 v.toNat))) := wordValid _ (by omega)
        have hrv : ∀ k, s.size + 1 ≤ k → bonsairef04_Valid.f k (r'.extract 0 v.toNat) = some (decide (Vld (r'.extract 0 v.toNat))) := fun k hk => refValid _ (by omega) k (by omega)
        have go2 : ∀ k, s.size + 30 ≤ k → word_Take.f (k + 2) s a most = (if Vld (r'.extract 0 v.toNat) then some (r'.extract 0 v.toNat, a' + v, 0) else some (noText, 0, 4)) ∧ bonsairef04_Take.f (k + 2) s a most = (if Vld (r'.extract 0 v.toNat) then some (r'.extract 0 v.toNat, a' + v, 0) else some (noText, 0, 4)) := fun k hk => by
          rw [(go k).1, (go k).2 (by omega)]
          simp only [word_Take.j1, bonsairef04_Take.j1, Bool.false_eq_true, if_false]
          rw [hl.1, hl.2]
          simp only [Option.bind_some]
          rw [hwl, if_neg hcut, if_neg hcut, w64 (n := v) (by omega) (by omega), t1, t2 k (by omega)]
          simp only [Option.bind_some]
          rw [hwv, hrv k (by omega)]
          simp only [Option.bind_some, decide_eq_true_eq]
          rw [hl2.1]
          simp only [Option.bind_some]
          have := hS2.size
          rw [w64 (n := (s.size : Int) - _) (by omega) (by omega), show (s.size : Int) - ((r'.extract v.toNat r'.size).size : Int) = a' + v by omega]
          exact ⟨rfl, rfl⟩
        by_cases hV : Vld (r'.extract 0 v.toNat)
        · refine ⟨r'.extract 0 v.toNat, a' + v, 0, fun k hk => ?_, fun h => absurd rfl h, fun _ => ⟨by omega, a', v, hV, hv0, by omega, by rw [hts]; omega, by have := he3 rfl; omega, by omega, ?_, ?_, by omega⟩⟩
          · obtain ⟨k, rfl⟩ := hfin k (by omega)
            have := go2 k (by omega)
            rw [if_pos hV] at this
            exact this
          · conv => lhs; rw [hS'.rest]
            rw [ByteArray.extract_extract]
            congr 1
            · omega
            · omega
          · rw [hp, hS'.rest]
        · refine ⟨noText, 0, 4, fun k hk => ?_, fun _ => ⟨rfl, rfl⟩, fun h => absurd h (by decide)⟩
          obtain ⟨k, rfl⟩ := hfin k (by omega)
          have := go2 k (by omega)
          rw [if_neg hV] at this
          exact this
  · refine ⟨noText, 0, e', fun k hk => ?_, fun _ => ⟨rfl, rfl⟩, fun h => absurd h he⟩
    obtain ⟨k, rfl⟩ := hfin k (by omega)
    rw [(start k).1, (start k).2]
    simp only [word_Take.j0, bonsairef04_Take.j0, Bool.false_eq_true, if_false, pack_New.f, Option.bind_some]
    rw [if_pos (by omega), if_pos (by omega), hp, hr (k + 1) (by omega)]
    simp only [Option.bind_some, pack_Reader_Err.f]
    rw [if_neg he, if_neg he]
    exact ⟨rfl, rfl⟩
end Go.Proofs.Ytfgnjndfnijjoaa.LibE
end
section
namespace Go.Proofs.Ytfgnjndfnijjoaa.LibF
open Go.RowKit Go.Proofs.Ytfgnjndfnijjoaa.Print Go.Proofs.YtfgnjndfnijjoaaW.PrintWords Go.Proofs.YtfgnjndfnijjoaaW.PrintLast Go.Proofs.YtfgnjndfnijjoaaW.PrintMore Go.Proofs.Ytfgnjndfnijjoaa.LibA Go.Proofs.Ytfgnjndfnijjoaa.LibB
theorem bt_app_left {s t : ByteArray} {d : Int} (h0 : 0 ≤ d) (h1 : d < s.size) : bt (s ++ t) d = bt s d := by
  unfold bt
  rw [dif_pos (by rw [ByteArray.size_append]; omega), dif_pos (by omega)]
  rw [ByteArray.getElem_append_left (by omega)]
theorem bt_app_right {s t : ByteArray} {d : Int} (h0 : 0 ≤ d) (h1 : d < t.size) : bt (s ++ t) (s.size + d) = bt t d := by
  unfold bt
  rw [dif_pos (by rw [ByteArray.size_append]; omega), dif_pos (by omega)]
  rw [ByteArray.getElem_append_right (by omega)]
  have e : ((s.size : Int) + d).toNat - s.size = d.toNat := by omega
  simp only [e]
end Go.Proofs.Ytfgnjndfnijjoaa.LibF
end
section
namespace Go.Proofs.Ytfgnjndfnijjoaa.LibG
open Go.RowKit Go.Proofs.Ytfgnjndfnijjoaa.Print Go.Proofs.YtfgnjndfnijjoaaW.PrintWords Go.Proofs.YtfgnjndfnijjoaaW.PrintLast Go.Proofs.YtfgnjndfnijjoaaW.PrintMore Go.Proofs.Ytfgnjndfnijjoaa.LibA Go.Proofs.Ytfgnjndfnijjoaa.LibB Go.Proofs.Ytfgnjndfnijjoaa.LibC Go.Proofs.Ytfgnjndfnijjoaa.LibD Go.Proofs.Ytfgnjndfnijjoaa.LibE Go.Proofs.Ytfgnjndfnijjoaa.LibF
theorem ba_ext {a b : ByteArray} (hs : a.size = b.size) (h : ∀ i : Int, 0 ≤ i → i < a.size → bt a i = bt b i) : a = b := by
  apply ByteArray.ext
  apply Array.ext hs
  intro i h1 h2
  have := h i (by omega) (by have : i < a.size := h1; omega)
  unfold bt at this
  rw [dif_pos (by have : i < a.size := h1; omega), dif_pos (by have : i < b.size := h2; omega)] at this
  have e : (a[((i : Nat) : Int).toNat]'(by have : i < a.size := h1; omega)) = (b[((i : Nat) : Int).toNat]'(by have : i < b.size := h2; omega)) := UInt8.toNat_inj.mp (by omega)
  simpa [ByteArray.getElem_eq_getElem_data] using e
theorem bt_nums {xs : List Int} (hx : ∀ x ∈ xs, 0 ≤ x ∧ x < 256) {i : Nat} (hi : i < xs.length) : bt (strOfNums xs) i = xs[i] := by
  unfold bt
  rw [dif_pos (by rw [strOfNums_size]; omega)]
  have := hx xs[i] (List.getElem_mem hi)
  simp only [strOfNums, ByteArray.getElem_eq_getElem_data, Int.toNat_natCast, List.getElem_toArray, List.getElem_map]
  rw [UInt8.toNat_ofNat']
  omega
theorem putL_bytes : ∀ (d : Nat) (x : Int), 0 ≤ x → x < 128 ^ (d + 1) → ∀ y ∈ putL d x, 0 ≤ y ∧ y < 256
  | 0, x, h0, h1, y, hy => by
    simp [putL] at hy
    subst hy
    omega
  | d + 1, x, h0, h1, y, hy => by
    unfold putL at hy
    split at hy
    · rcases List.mem_cons.mp hy with rfl | hy
      · omega
      · refine putL_bytes d (x / 128) (by omega) ?_ y hy
        rw [Int.pow_succ] at h1
        exact Int.ediv_lt_of_lt_mul (by omega) h1
    · simp at hy
      subst hy
      omega
theorem pow_le {a b : Nat} (h : a ≤ b) : (128 : Int) ^ a ≤ 128 ^ b := by
  induction h with
  | refl => exact Int.le_refl _
  | @step m _ ih => rw [Int.pow_succ]; have : (0 : Int) < 128 ^ a := Int.pow_pos (by decide); omega
theorem pow_pos (n : Nat) : (0 : Int) < 128 ^ n := Int.pow_pos (by decide)
theorem num_canon (s : ByteArray) : ∀ (k : Nat) (i acc : Int), 0 ≤ i → i + (k + 1 : Nat) = 10 → (numL s (k + 1) i acc).1 = 0 →
    ∃ x : Int, 0 ≤ x ∧ x < 128 ^ (k + 1) ∧ (i = 0 ∨ 0 < x) ∧ (numL s (k + 1) i acc).2.1 = acc + x * 128 ^ i.toNat ∧ (numL s (k + 1) i acc).2.2 = i + (putL k x).length ∧ i + (putL k x).length ≤ s.size ∧ ∀ j (hj : j < (putL k x).length), bt s (i + j) = (putL k x)[j]
  | k, i, acc, hi, hk, h => by
    simp only [numL] at h ⊢
    have hr := bt_range s i
    by_cases hlt : i < (s.size : Int)
    · rw [if_pos hlt] at h ⊢
      by_cases hok : (i < 9 ∨ bt s i ≤ 1) ∧ (i = 0 ∨ bt s i ≠ 0)
      · rw [if_pos hok] at h ⊢
        by_cases hb : bt s i < 128
        · rw [if_pos hb] at h ⊢
          have hp : putL k (bt s i) = [bt s i] := by
            cases k with
            | zero => rfl
            | succ d => show (if bt s i ≥ 128 then _ else _) = _; rw [if_neg (by omega)]
          refine ⟨bt s i, hr.1, ?_, by omega, by rw [show bt s i % 128 = bt s i by omega], by rw [hp]; rfl, by rw [hp]; simp; omega, fun j hj => ?_⟩
          · have : (128 : Int) ^ 1 ≤ 128 ^ (k + 1) := pow_le (by omega)
            omega
          · simp only [hp, List.length_singleton] at hj ⊢
            have : j = 0 := by omega
            subst this
            simp
        · rw [if_neg hb] at h ⊢
          cases k with
          | zero => omega
          | succ k =>
            obtain ⟨x, h1, h2, h3, h4, h5, h6, h7⟩ := num_canon s k (i + 1) _ (by omega) (by omega) h
            have hx : 0 < x := by omega
            have hp : putL (k + 1) (x * 128 + bt s i % 128) = bt s i :: putL k x := by
              show (if x * 128 + bt s i % 128 ≥ 128 then ((x * 128 + bt s i % 128) % 128 + 128) :: putL k ((x * 128 + bt s i % 128) / 128) else _) = _
              rw [if_pos (by omega), show (x * 128 + bt s i % 128) / 128 = x by omega, show (x * 128 + bt s i % 128) % 128 + 128 = bt s i by omega]
            refine ⟨x * 128 + bt s i % 128, by omega, by rw [Int.pow_succ]; omega, .inr (by omega), ?_, ?_, ?_, ?_⟩
            · rw [h4, show (i + 1).toNat = i.toNat + 1 by omega, Int.pow_succ, Int.add_mul, Int.mul_assoc, Int.mul_comm 128 (128 ^ i.toNat)]
              omega
            · rw [h5, hp, List.length_cons]; omega
            · rw [hp, List.length_cons]; omega
            · intro j hj
              cases j with
              | zero => simp only [hp, List.getElem_cons_zero]; simp
              | succ j =>
                rw [hp, List.length_cons] at hj
                simp only [hp, List.getElem_cons_succ]
                rw [← h7 j (by omega)]
                congr 1
                omega
      · rw [if_neg hok] at h
        cases h
    · rw [if_neg hlt] at h
      cases h
theorem read_put (s : ByteArray) (h : (numL s 10 0 0).1 = 0) : s.extract 0 (numL s 10 0 0).2.2.toNat = strOfNums (putL 9 (numL s 10 0 0).2.1) := by
  obtain ⟨x, h1, h2, _, h4, h5, h6, h7⟩ := num_canon s 9 0 0 (by omega) (by omega) h
  have e4 : (numL s 10 0 0).2.1 = x := by simpa using h4
  have e5 : (numL s 10 0 0).2.2 = (putL 9 x).length := by simpa using h5
  have h6' : (putL 9 x).length ≤ s.size := by omega
  rw [e4, e5, Int.toNat_natCast]
  refine ba_ext (by rw [size_take h6', strOfNums_size]) (fun i h0 hi => ?_)
  rw [size_take h6'] at hi
  obtain ⟨j, rfl⟩ := Int.eq_ofNat_of_zero_le h0
  rw [bt_take h6' h0 hi, bt_nums (putL_bytes 9 x h1 h2) (by omega)]
  have := h7 j (by omega)
  rwa [Int.zero_add] at this
theorem take_drop (s : ByteArray) (n : Nat) (hn : n ≤ s.size) : s.extract 0 n ++ s.extract n s.size = s := by
  refine ba_ext (by rw [ByteArray.size_append, size_take hn, ByteArray.size_extract]; omega) (fun i h0 hi => ?_)
  rw [ByteArray.size_append, size_take hn, ByteArray.size_extract] at hi
  by_cases h : i < n
  · rw [bt_app_left h0 (by rw [size_take hn]; exact h), bt_take hn h0 h]
  · obtain ⟨j, rfl⟩ : ∃ j, i = ((s.extract 0 n).size : Int) + j := ⟨i - n, by rw [size_take hn]; omega⟩
    rw [size_take hn] at h hi
    rw [bt_app_right (by omega) (by rw [ByteArray.size_extract]; omega), bt_drop (Nat.le_refl _) (by omega) (by omega), size_take hn]
end Go.Proofs.Ytfgnjndfnijjoaa.LibG
end
section
namespace Go.Proofs.Ytfgnjndfnijjoaa.RowsA
set_option linter.unusedSimpArgs false
set_option linter.unusedVariables false
open Go.RowKit Go.Proofs.Ytfgnjndfnijjoaa.Print Go.Proofs.YtfgnjndfnijjoaaW.PrintWords Go.Proofs.YtfgnjndfnijjoaaW.PrintLast Go.Proofs.YtfgnjndfnijjoaaW.PrintMore Go.Proofs.Ytfgnjndfnijjoaa.LibA Go.Proofs.Ytfgnjndfnijjoaa.LibB Go.Proofs.Ytfgnjndfnijjoaa.LibC Go.Proofs.Ytfgnjndfnijjoaa.LibD Go.Proofs.Ytfgnjndfnijjoaa.LibE Go.Proofs.Ytfgnjndfnijjoaa.LibF Go.Proofs.Ytfgnjndfnijjoaa.LibG
abbrev Mv := S30
abbrev rdM (l : List Mv) (i : Int) : Mv := rd_T30 l i
theorem Ev.succ {α : Type} {g : Nat → Option α} {r : α} (h : Ev (fun k => g (k + 1)) r) : Ev g r := Ev.step (fun _ => rfl) h
theorem Ev.all {α : Type} {g : Nat → Option α} {r : α} (K : Nat) (h : ∀ k, K ≤ k → g k = some r) : Ev g r := ⟨K, h⟩
theorem Ev.det {α : Type} {g : Nat → Option α} {r q : α} (h : Ev g r) (h' : Ev g q) : r = q := by
  obtain ⟨a, ha⟩ := h
  obtain ⟨b, hb⟩ := h'
  have h1 := ha (a + b) (by omega)
  rw [hb (a + b) (by omega)] at h1
  exact (Option.some.inj h1).symm
structure OneP (m : Mv) : Prop where
  c1 : 1 ≤ m.f0.f0
  c2 : m.f0.f0 ≤ 4611686018427387903
  r1 : 1 ≤ m.f0.f1
  r2 : m.f0.f1 ≤ 255
  k1 : 1 ≤ m.f2
  k2 : m.f2 ≤ 2147483647
  p1 : 0 ≤ m.f1
  p2 : m.f1 ≤ 2147483647
  nm : m.f3.size ≤ 64
  vl : Vld m.f3
noncomputable instance (m : Mv) : Decidable (OneP m) := Classical.propDecidable _
theorem one_is (m : Mv) : moves_One.f m.f0.f0 m.f0.f1 m.f1 m.f2 m.f3 m.f4 = some (decide (OneP m)) := by
  unfold moves_One.f
  by_cases c1 : m.f0.f0 ≥ 1
  rotate_left; · rw [if_neg c1, decide_eq_false (fun h => c1 h.c1)]
  rw [if_pos c1]
  by_cases c2 : m.f0.f0 ≤ 4611686018427387903
  rotate_left; · rw [if_neg c2, decide_eq_false (fun h => c2 h.c2)]
  rw [if_pos c2]
  by_cases r1 : m.f0.f1 ≥ 1
  rotate_left; · rw [if_neg r1, decide_eq_false (fun h => r1 h.r1)]
  rw [if_pos r1]
  by_cases r2 : m.f0.f1 ≤ 255
  rotate_left; · rw [if_neg r2, decide_eq_false (fun h => r2 h.r2)]
  rw [if_pos r2]
  unfold moves_Row.f
  simp only [Option.bind_some]
  unfold tree_One.f
  by_cases k1 : m.f2 ≥ 1
  rotate_left; · rw [if_neg k1, decide_eq_false (fun h => k1 h.k1)]; rfl
  rw [if_pos k1]
  by_cases k2 : m.f2 ≤ 2147483647
  rotate_left; · rw [if_neg k2, decide_eq_false (fun h => k2 h.k2)]; rfl
  rw [if_pos k2]
  by_cases p1 : m.f1 ≥ 0
  rotate_left; · rw [if_neg p1, decide_eq_false (fun h => p1 h.p1)]; rfl
  rw [if_pos p1]
  by_cases p2 : m.f1 ≤ 2147483647
  rotate_left; · rw [if_neg p2, decide_eq_false (fun h => p2 h.p2)]; rfl
  rw [if_pos p2]
  by_cases nm : (m.f3.size : Int) ≤ 64
  rotate_left; · rw [if_neg nm, decide_eq_false (fun h => nm (by have := h.nm; omega))]; rfl
  rw [if_pos nm, wordValid _ (by omega)]
  simp only [Option.bind_some]
  congr 1
  rw [decide_eq_decide]
  exact ⟨fun h => ⟨c1, c2, r1, r2, k1, k2, p1, p2, by omega, h⟩, fun h => h.vl⟩
theorem refOne_is (m : Mv) : Ev (fun k => bonsairef13_One.f k m.f0.f0 m.f0.f1 m.f1 m.f2 m.f3 m.f4) (decide (OneP m)) := by
  unfold bonsairef13_One.f bonsairef13_Time.f
  by_cases c1 : m.f0.f0 ≥ 1
  rotate_left; · simp only [if_neg c1, decide_eq_false (fun h : OneP m => c1 h.c1), Option.bind_some]; exact Ev.now _
  by_cases c2 : m.f0.f0 ≤ 4611686018427387903
  rotate_left; · simp only [if_pos c1, if_neg c2, decide_eq_false (fun h : OneP m => c2 h.c2), Option.bind_some]; exact Ev.now _
  by_cases r1 : m.f0.f1 ≥ 1
  rotate_left; · simp only [if_pos c1, if_pos c2, if_neg r1, decide_eq_false (fun h : OneP m => r1 h.r1), Option.bind_some]; exact Ev.now _
  by_cases r2 : m.f0.f1 ≤ 255
  rotate_left; · simp only [if_pos c1, if_pos c2, if_pos r1, decide_eq_false r2, decide_eq_false (fun h : OneP m => r2 h.r2), Option.bind_some]; exact Ev.now _
  unfold bonsairef13_Row.f
  simp only [if_pos c1, if_pos c2, if_pos r1, decide_eq_true r2, Option.bind_some, if_true]
  unfold bonsairef12_One.f
  by_cases k1 : m.f2 ≥ 1
  rotate_left; · simp only [if_neg k1, decide_eq_false (fun h : OneP m => k1 h.k1), Option.bind_some]; exact Ev.now _
  by_cases k2 : m.f2 ≤ 2147483647
  rotate_left; · simp only [if_pos k1, if_neg k2, decide_eq_false (fun h : OneP m => k2 h.k2), Option.bind_some]; exact Ev.now _
  by_cases p1 : m.f1 ≥ 0
  rotate_left; · simp only [if_pos k1, if_pos k2, if_neg p1, decide_eq_false (fun h : OneP m => p1 h.p1), Option.bind_some]; exact Ev.now _
  by_cases p2 : m.f1 ≤ 2147483647
  rotate_left; · simp only [if_pos k1, if_pos k2, if_pos p1, if_neg p2, decide_eq_false (fun h : OneP m => p2 h.p2), Option.bind_some]; exact Ev.now _
  by_cases nm : (m.f3.size : Int) ≤ 64
  rotate_left; · simp only [if_pos k1, if_pos k2, if_pos p1, if_pos p2, if_neg nm, decide_eq_false (fun h : OneP m => nm (by have := h.nm; omega)), Option.bind_some]; exact Ev.now _
  simp only [if_pos k1, if_pos k2, if_pos p1, if_pos p2, if_pos nm]
  have hv : Ev (fun k => bonsairef04_Valid.f k m.f3) (decide (Vld m.f3)) := Ev.all (m.f3.size + 1) fun k hk => refValid _ (by omega) k hk
  have e : decide (OneP m) = decide (Vld m.f3) := decide_eq_decide.mpr ⟨fun h => h.vl, fun h => ⟨c1, c2, r1, r2, k1, k2, p1, p2, by omega, h⟩⟩
  rw [e]
  exact Ev.bind (Ev.bind hv (Ev.now _)) (Ev.now _)
def BefP (a b : Mv) : Prop := beforeB a.f0.f0 a.f0.f1 b.f0.f0 b.f0.f1 = true
theorem refBefore_is (a b c d : Int) : bonsairef02_Before.f a b c d = some (beforeB a b c d) := by
  unfold bonsairef02_Before.f beforeB
  by_cases h : a < c
  · rw [if_pos h]; simp [h]
  · rw [if_neg h]
    by_cases h2 : a = c
    · rw [if_pos h2]; simp [h2]
    · rw [if_neg h2]; simp [h, h2]
structure MayP (l : List Mv) : Prop where
  few : l.length ≤ 2000
  one : ∀ m ∈ l, OneP m
  up : ∀ i : Nat, 0 < i → i < l.length → BefP (rdM l ((i : Int) - 1)) (rdM l i)
noncomputable instance (l : List Mv) : Decidable (MayP l) := Classical.propDecidable _
def UpP (l : List Mv) (i : Nat) : Prop := ∀ j : Nat, i ≤ j → j < l.length → BefP (rdM l ((j : Int) - 1)) (rdM l j)
noncomputable instance (l : List Mv) (i : Nat) : Decidable (UpP l i) := Classical.propDecidable _
theorem rd_mem {l : List Mv} {i : Nat} (h : i < l.length) : rdM l (i : Int) = l[i] := by
  show l.getD (i : Int).toNat _ = _
  simp [h]
structure OkFrom (l : List Mv) (i : Nat) : Prop where
  one : ∀ j : Nat, i ≤ j → j < l.length → OneP (rdM l j)
  up : ∀ j : Nat, 0 < j → i ≤ j → j < l.length → BefP (rdM l ((j : Int) - 1)) (rdM l j)
noncomputable instance (l : List Mv) (i : Nat) : Decidable (OkFrom l i) := Classical.propDecidable _
end Go.Proofs.Ytfgnjndfnijjoaa.RowsA
end
section
namespace Go.Proofs.Ytfgnjndfnijjoaa.RowsB
set_option linter.unusedSimpArgs false
set_option linter.unusedVariables false
open Go.RowKit Go.Proofs.Ytfgnjndfnijjoaa.Print Go.Proofs.YtfgnjndfnijjoaaW.PrintWords Go.Proofs.YtfgnjndfnijjoaaW.PrintLast Go.Proofs.YtfgnjndfnijjoaaW.PrintMore Go.Proofs.Ytfgnjndfnijjoaa.LibA Go.Proofs.Ytfgnjndfnijjoaa.LibB Go.Proofs.Ytfgnjndfnijjoaa.LibC Go.Proofs.Ytfgnjndfnijjoaa.LibD Go.Proofs.Ytfgnjndfnijjoaa.LibE Go.Proofs.Ytfgnjndfnijjoaa.LibF Go.Proofs.Ytfgnjndfnijjoaa.LibG Go.Proofs.Ytfgnjndfnijjoaa.RowsA
def putB (x : Int) : ByteArray := strOfNums (putL 9 x)
theorem num_read_put (r : ByteArray) (n : Int) (y : ByteArray) (h : pack_Reader_Num.f r 0 = some (n, y, 0)) : r = putB n ++ y ∧ 0 ≤ n ∧ n < 18446744073709551616 := by
  unfold pack_Reader_Num.f at h
  by_cases hr : r.size ≤ 9223372036854775000
  rotate_left
  · rw [if_neg hr] at h; exact absurd h (by simp)
  rw [if_pos hr, if_pos rfl] at h
  obtain ⟨hn1, hn2⟩ := numL_is r 10 0 0 (by omega) (by omega) (by omega) (by omega) (by decide)
  by_cases hR : (numL r 10 0 0).1 = 0
  · rw [if_pos hR] at h
    simp only [Option.some.injEq, Prod.mk.injEq] at h
    obtain ⟨h1, h2, _⟩ := h
    have hn := hn1 hR
    have hp := read_put r hR
    subst h1
    refine ⟨?_, hn.1, hn.2.1⟩
    rw [← h2]
    unfold putB
    rw [← hp]
    exact (take_drop r _ (by omega)).symm
  · rw [if_neg hR] at h
    simp only [Option.some.injEq, Prod.mk.injEq] at h
    omega
def fixL : Nat → Int → List Int
  | 0, _ => []
  | n + 1, u => u % 256 :: fixL n (u / 256)
def fixB (u : Int) : ByteArray := strOfNums (fixL 8 u)
def valL : List Int → Int
  | [] => 0
  | x :: xs => x + 256 * valL xs
theorem valL_range : ∀ (xs : List Int), (∀ x ∈ xs, 0 ≤ x ∧ x < 256) → 0 ≤ valL xs ∧ valL xs < 256 ^ xs.length
  | [], _ => by simp [valL]
  | x :: xs, h => by
    have h1 := h x (List.mem_cons_self)
    have h2 := valL_range xs (fun y hy => h y (List.mem_cons_of_mem _ hy))
    simp only [valL, List.length_cons, Int.pow_succ]
    omega
theorem fix_valL : ∀ (xs : List Int), (∀ x ∈ xs, 0 ≤ x ∧ x < 256) → fixL xs.length (valL xs) = xs
  | [], _ => rfl
  | x :: xs, h => by
    have h1 := h x (List.mem_cons_self)
    have h2 := fix_valL xs (fun y hy => h y (List.mem_cons_of_mem _ hy))
    have e1 : (x + 256 * valL xs) % 256 = x := by omega
    have e2 : (x + 256 * valL xs) / 256 = valL xs := by omega
    simp only [valL, List.length_cons, fixL, e1, e2, h2]
def numsOf (s : ByteArray) : List Int := (List.range s.size).map fun (i : Nat) => bt s (i : Int)
theorem numsOf_length (s : ByteArray) : (numsOf s).length = s.size := by simp [numsOf]
theorem numsOf_range (s : ByteArray) : ∀ x ∈ numsOf s, 0 ≤ x ∧ x < 256 := by
  intro x hx
  simp only [numsOf, List.mem_map] at hx
  obtain ⟨i, _, rfl⟩ := hx
  have := bt_range s (i : Int)
  omega
theorem str_numsOf (s : ByteArray) : strOfNums (numsOf s) = s := by
  refine ba_ext (by rw [strOfNums_size, numsOf_length]) (fun i h0 hi => ?_)
  rw [strOfNums_size, numsOf_length] at hi
  obtain ⟨j, rfl⟩ := Int.eq_ofNat_of_zero_le h0
  rw [bt_nums (numsOf_range s) (by rw [numsOf_length]; omega)]
  simp [numsOf]
def fixV (s : ByteArray) : Int := valL (numsOf s)
theorem fixB_val (s : ByteArray) (h : s.size = 8) : fixB (fixV s) = s := by
  have h1 := fix_valL (numsOf s) (numsOf_range s)
  rw [numsOf_length, h] at h1
  unfold fixV fixB
  rw [h1, str_numsOf]
theorem fixV_range (s : ByteArray) (h : s.size = 8) : 0 ≤ fixV s ∧ fixV s < 18446744073709551616 := by
  have := valL_range (numsOf s) (numsOf_range s)
  rw [numsOf_length, h] at this
  have h2 := this.2
  simp only [Int.reducePow] at h2
  exact ⟨this.1, h2⟩
theorem or_byte (u b : Int) (hu : 0 ≤ u) (hu1 : u < 72057594037927936) (hb : 0 ≤ b) (hb1 : b < 256) : bits .or .u64 (u * 256) b = u * 256 + b := by
  exact u64_join 8 (u * 256) b (by omega) (by simp) (by omega) hb (by simpa using hb1) (by omega)
theorem pow_mono {a b : Nat} (h : a ≤ b) : (256 : Int) ^ a ≤ 256 ^ b := by
  obtain ⟨c, rfl⟩ := Nat.exists_eq_add_of_le h
  rw [Int.pow_add]
  have h1 : (1 : Int) ≤ 256 ^ c := by have : (0 : Int) < 256 ^ c := Int.pow_pos (by decide); omega
  have h2 : (0 : Int) ≤ 256 ^ a := Int.le_of_lt (Int.pow_pos (by decide))
  exact Int.le_trans (by omega) (Int.mul_le_mul_of_nonneg_left h1 h2)
theorem step_is (u b : Int) (hu : 0 ≤ u) (hu1 : u < 72057594037927936) (hb : 0 ≤ b) (hb1 : b < 256) : pack_Reader_Fix.step u b = b + 256 * u := by
  unfold pack_Reader_Fix.step
  rw [pack_wraps_u64 (u * 256) (by omega) (by omega), pack_wraps_u64 b hb (by omega), or_byte u b hu hu1 hb hb1]
  omega
theorem fold_rev : ∀ (xs : List Int), (∀ x ∈ xs, 0 ≤ x ∧ x < 256) → xs.length ≤ 8 → xs.reverse.foldl pack_Reader_Fix.step 0 = valL xs
  | [], _, _ => rfl
  | x :: xs, h, hl => by
    have h1 := h x (List.mem_cons_self)
    have hx : ∀ y ∈ xs, 0 ≤ y ∧ y < 256 := fun y hy => h y (List.mem_cons_of_mem _ hy)
    have h2 := valL_range xs hx
    have h3 := pow_mono (show xs.length ≤ 7 by simp at hl; omega)
    simp only [Int.reducePow] at h3
    rw [List.reverse_cons, List.foldl_append, fold_rev xs hx (by simp at hl; omega)]
    simp only [List.foldl_cons, List.foldl_nil]
    rw [step_is _ _ h2.1 (by omega) h1.1 h1.2]
    rfl
theorem seq_is (r : ByteArray) : (pack_Reader_Fix.seq r).map (·.2) = (numsOf r).reverse := by
  refine List.ext_getElem (by simp [pack_Reader_Fix.seq, bwUpto, numsOf]) (fun i h1 h2 => ?_)
  simp only [pack_Reader_Fix.seq, bwUpto, List.map_map, List.getElem_map, List.getElem_range, List.getElem_reverse, Function.comp, numsOf, List.length_map, List.length_range]
  have hi : r.size - 1 - i < r.size := by simp [pack_Reader_Fix.seq, bwUpto] at h1; omega
  unfold bt
  rw [dif_pos (by omega)]
  have e : r.data[r.size - 1 - i]? = some (r.data[r.size - 1 - i]'hi) := Array.getElem?_eq_getElem hi
  rw [e]
  rfl
theorem foldF_is (r : ByteArray) (h : r.size ≤ 8) : pack_Reader_Fix.fold (pack_Reader_Fix.seq r) = fixV r := by
  unfold pack_Reader_Fix.fold fixV
  have e : (pack_Reader_Fix.seq r).foldl (fun u p => pack_Reader_Fix.step u p.2) 0 = ((pack_Reader_Fix.seq r).map (·.2)).foldl pack_Reader_Fix.step 0 := by rw [List.foldl_map]
  rw [e, seq_is, fold_rev _ (numsOf_range r) (by rw [numsOf_length]; exact h)]
theorem refFixL (r : ByteArray) (h : r.size ≤ 8) (s : ByteArray) (a e : Int) : ∀ j : Nat, j ≤ r.size → Ev (fun k => bonsairef03_Reader_Fix.l0 k r (valL ((numsOf r).drop j)) ((j : Int) - 1) s a e) (fixV r, s, a, e)
  | 0, _ => by
    refine Ev.succ ?_
    simp only [bonsairef03_Reader_Fix.l0, if_neg (show ¬ (((0 : Nat) : Int) - 1 ≥ 0) by omega), List.drop_zero]
    exact Ev.now _
  | j + 1, hj => by
    refine Ev.succ ?_
    have hd : ∀ x ∈ (numsOf r).drop (j + 1), 0 ≤ x ∧ x < 256 := fun x hx => numsOf_range r x (List.mem_of_mem_drop hx)
    have hv := valL_range _ hd
    have hp := pow_mono (show ((numsOf r).drop (j + 1)).length ≤ 7 by rw [List.length_drop, numsOf_length]; omega)
    simp only [Int.reducePow] at hp
    have hb := bt_range r (j : Int)
    have hdrop : (numsOf r).drop j = bt r (j : Int) :: (numsOf r).drop (j + 1) := by
      rw [List.drop_eq_getElem_cons (by rw [numsOf_length]; omega)]
      simp [numsOf]
    have ih := refFixL r h s a e j (by omega)
    rw [hdrop] at ih
    simp only [valL] at ih
    have e1 : (((j + 1 : Nat) : Int) - 1) = (j : Int) := by omega
    simp only [bonsairef03_Reader_Fix.l0, e1, if_pos (show (j : Int) ≥ 0 by omega), if_pos (show (0 : Int) ≤ (j : Int) by omega), if_pos (show (j : Int) < (r.size : Int) by omega), w64 (show -9223372036854775808 ≤ (j : Int) - 1 by omega) (by omega)]
    rw [pack_wraps_u64 (256 * _) (by omega) (by omega), pack_wraps_u64 (bt r j) (by omega) (by omega), pack_wraps_u64 _ (by omega) (by omega)]
    rw [Int.add_comm] at ih
    exact ih
theorem fix_sim {S r : ByteArray} {a : Int} (h : Sim S a r) (h8 : 8 ≤ r.size) : pack_Reader_Fix.f r 0 = some (fixV (r.extract 0 8), r.extract 8 r.size, 0) ∧ Ev (fun k => bonsairef03_Reader_Fix.f k S a 0) (fixV (r.extract 0 8), S, a + 8, 0) := by
  obtain ⟨t1, t2⟩ := h.take 8 (by omega) (by omega)
  have hs : (r.extract 0 8).size = 8 := size_take h8
  constructor
  · unfold pack_Reader_Fix.f
    rw [t1]
    simp only [Option.bind_some]
    rw [foldF_is _ (by show (r.extract 0 8).size ≤ 8; omega)]
    rfl
  · unfold bonsairef03_Reader_Fix.f
    refine Ev.bind (Ev.all 1 t2) ?_
    have := refFixL (r.extract 0 8) (by omega) S (a + 8) 0 8 (by omega)
    rw [show (numsOf (r.extract 0 8)).drop 8 = [] from List.drop_of_length_le (by rw [numsOf_length]; omega)] at this
    simp only [show (r.extract 0 (Int.toNat 8)).size = 8 from hs]
    rw [show wrap64 (((8 : Nat) : Int) - 1) = ((8 : Nat) : Int) - 1 from w64 (by omega) (by omega)]
    exact this
theorem fix_short {S r : ByteArray} {a : Int} (h : Sim S a r) (h8 : r.size < 8) : (∃ u r', pack_Reader_Fix.f r 0 = some (u, r', 2)) ∧ ∃ u a', Ev (fun k => bonsairef03_Reader_Fix.f k S a 0) (u, S, a', 2) := by
  have hz := h.size
  have hlo := h.lo
  have hbig := h.big
  constructor
  · unfold pack_Reader_Fix.f pack_Reader_Take.f
    rw [if_pos rfl, if_neg (by omega)]
    exact ⟨_, _, rfl⟩
  · unfold bonsairef03_Reader_Fix.f
    refine ⟨0, a, Ev.bind (a := ((⟨#[]⟩ : ByteArray), S, a, 2)) (Ev.all 1 fun k hk => ?_) ?_⟩
    rotate_left
    · refine Ev.succ ?_
      simp only [bonsairef03_Reader_Fix.l0]
      simp only [if_neg (show ¬ wrap64 (((⟨#[]⟩ : ByteArray).size : Int) - 1) ≥ 0 by decide +kernel)]
      exact Ev.now _
    · obtain ⟨k, rfl⟩ : ∃ m, k = m + 1 := ⟨k - 1, by omega⟩
      unfold bonsairef03_Reader_Take.f
      rw [if_pos rfl, if_neg (by omega), w64 (show -9223372036854775808 ≤ (S.size : Int) - a by omega) (by omega)]
      simp only [bonsairef03_Reader_Take.j0]
      rw [if_pos (by simp; omega)]
end Go.Proofs.Ytfgnjndfnijjoaa.RowsB
end
section
namespace Go.Proofs.Ytfgnjndfnijjoaa.RowsC
set_option linter.unusedSimpArgs false
set_option linter.unusedVariables false
open Go.RowKit Go.Proofs.Ytfgnjndfnijjoaa.Print Go.Proofs.YtfgnjndfnijjoaaW.PrintWords Go.Proofs.YtfgnjndfnijjoaaW.PrintLast Go.Proofs.YtfgnjndfnijjoaaW.PrintMore Go.Proofs.Ytfgnjndfnijjoaa.LibA Go.Proofs.Ytfgnjndfnijjoaa.LibB Go.Proofs.Ytfgnjndfnijjoaa.LibC Go.Proofs.Ytfgnjndfnijjoaa.LibD Go.Proofs.Ytfgnjndfnijjoaa.LibE Go.Proofs.Ytfgnjndfnijjoaa.LibF Go.Proofs.Ytfgnjndfnijjoaa.LibG Go.Proofs.Ytfgnjndfnijjoaa.RowsA Go.Proofs.Ytfgnjndfnijjoaa.RowsB
def headB (m : Mv) : ByteArray := ((putB (IntKind.u64.wrap m.f0.f0) ++ putB (IntKind.u64.wrap m.f0.f1)) ++ putB (IntKind.u64.wrap m.f1)) ++ putB (IntKind.u64.wrap m.f2)
def oneB (m : Mv) : ByteArray := (headB m ++ (putB m.f3.size ++ m.f3)) ++ fixB m.f4
def flat : List Mv → ByteArray
  | [] => ByteArray.empty
  | m :: l => oneB m ++ flat l
def beginB : ByteArray := ⟨#[66, 78, 83, 73, 1]⟩
theorem beginB_size : beginB.size = 5 := rfl
def fileB (l : List Mv) : ByteArray := (beginB ++ putB l.length) ++ flat l
end Go.Proofs.Ytfgnjndfnijjoaa.RowsC
end
section
namespace Go.Proofs.Ytfgnjndfnijjoaa.RowsL
set_option linter.unusedSimpArgs false
set_option linter.unusedVariables false
open Go.RowKit Go.Proofs.Ytfgnjndfnijjoaa.Print Go.Proofs.YtfgnjndfnijjoaaW.PrintWords Go.Proofs.YtfgnjndfnijjoaaW.PrintLast Go.Proofs.YtfgnjndfnijjoaaW.PrintMore Go.Proofs.Ytfgnjndfnijjoaa.LibA Go.Proofs.Ytfgnjndfnijjoaa.LibB Go.Proofs.Ytfgnjndfnijjoaa.LibC Go.Proofs.Ytfgnjndfnijjoaa.LibD Go.Proofs.Ytfgnjndfnijjoaa.LibE Go.Proofs.Ytfgnjndfnijjoaa.LibF Go.Proofs.Ytfgnjndfnijjoaa.LibG Go.Proofs.Ytfgnjndfnijjoaa.RowsA Go.Proofs.Ytfgnjndfnijjoaa.RowsB Go.Proofs.Ytfgnjndfnijjoaa.RowsC
theorem live21 : bonsailaw21_live.f 60 = some true := by decide +kernel
theorem live_ev : Ev (fun k => bonsailaw21_live.f k) true := Ev.of bonsailaw21_live.mono live21
end Go.Proofs.Ytfgnjndfnijjoaa.RowsL
end
section
namespace Go.Proofs.Ytfgnjndfnijjoaa.RowsD
set_option linter.unusedSimpArgs false
set_option linter.unusedVariables false
open Go.RowKit Go.Proofs.Ytfgnjndfnijjoaa.Print Go.Proofs.YtfgnjndfnijjoaaW.PrintWords Go.Proofs.YtfgnjndfnijjoaaW.PrintLast Go.Proofs.YtfgnjndfnijjoaaW.PrintMore Go.Proofs.Ytfgnjndfnijjoaa.LibA Go.Proofs.Ytfgnjndfnijjoaa.LibB Go.Proofs.Ytfgnjndfnijjoaa.LibC Go.Proofs.Ytfgnjndfnijjoaa.LibD Go.Proofs.Ytfgnjndfnijjoaa.LibE Go.Proofs.Ytfgnjndfnijjoaa.LibF Go.Proofs.Ytfgnjndfnijjoaa.LibG Go.Proofs.Ytfgnjndfnijjoaa.RowsA Go.Proofs.Ytfgnjndfnijjoaa.RowsB Go.Proofs.Ytfgnjndfnijjoaa.RowsC Go.Proofs.Ytfgnjndfnijjoaa.RowsL
def canonB (u : Int) : Bool := if u / 4503599627370496 % 2048 = 2047 then (if u % 4503599627370496 = 0 then true else u == 9221120237041090560) else true
theorem canon_is (u : Int) (h0 : 0 ≤ u) (h1 : u < 18446744073709551616) : bits_Canon.f u = some (canonB u) ∧ bonsairef01_Canon.f u = some (canonB u) := by
  unfold bits_Canon.f bonsairef01_Canon.f canonB bonsairef01_None.f
  rw [mask_e u h0 h1, mask_m u h0 h1, Int.tmod_eq_emod_of_nonneg (by omega), Int.tmod_eq_emod_of_nonneg h0]
  simp only [Option.bind_some]
  constructor <;> (repeat' split) <;> rfl
theorem canon_fix (u : Int) (h0 : 0 ≤ u) (h1 : u < 18446744073709551616) (h : canonB u = true) : ((canonF u.toNat : Nat) : Int) = u := by
  unfold canonB at h
  unfold canonF
  split at h
  · rename_i he
    split at h
    · rw [if_neg (by omega)]; omega
    · have : u = 9221120237041090560 := by simpa using h
      subst this
      decide
  · rename_i he
    rw [if_neg (by omega)]; omega
def RankP (m : Mv) : Prop := FB m.f4.toNat m.f4
theorem float_is (u : Int) (h0 : 0 ≤ u) (h1 : u < 18446744073709551616) : bits_Float.f u = some ((canonF u.toNat : Nat) : Int) ∧ bonsairef01_Float.f u = some ((canonF u.toNat : Nat) : Int) := by
  unfold bits_Float.f bonsairef01_Float.f
  rw [if_pos ⟨h0, h1⟩]
  exact ⟨rfl, rfl⟩
theorem FB_canon (u : Int) (h0 : 0 ≤ u) (h1 : u < 18446744073709551616) : FB u.toNat ((canonF u.toNat : Nat) : Int) := ⟨by omega, rfl⟩
def zMv : Mv := z30
instance (a b : Mv) : Decidable (BefP a b) := by unfold BefP; infer_instance
def Onward (S : ByteArray) (n : Int) (out : List Mv) (i : Int) (m : Mv) (a' : Int) (R : List Mv × Int) : Prop :=
  if 0 < i ∧ ¬ BefP (rdM out (i - 1)) m then R = ([], 12) else Ev (fun k => bonsairef21_Decode.l0 k S n (out ++ [m]) (i + 1) S a' 0) R
structure Got (S r : ByteArray) (a : Int) (m : Mv) (r' : ByteArray) (a' : Int) : Prop where
  sim : Sim S a' r'
  one : OneP m
  rank : RankP m
  bytes : r = oneB m ++ r'
  prog : Ev (fun k => rdMove.f k S r 0) (m, 0, r', 0)
set_option maxHeartbeats 4000000 in
theorem step (S r : ByteArray) (a : Int) (h : Sim S a r) :
    (∃ e, e ≠ 0 ∧ (∃ m r' e', Ev (fun k => rdMove.f k S r 0) (m, e, r', e')) ∧ ∀ n out i, 0 ≤ i → i < n → n ≤ 2000 → Ev (fun k => bonsairef21_Decode.l0 k S n out i S a 0) ([], e)) ∨
    (∃ m r' a', Got S r a m r' a' ∧ ∀ n out i R, 0 ≤ i → i < n → n ≤ 2000 → (out.length : Int) = i → Onward S n out i m a' R → Ev (fun k => bonsairef21_Decode.l0 k S n out i S a 0) R) := by
  obtain ⟨v1, r1, e1, a1, p1, q1, S1, lo1, hi1, k1, _, l1, x1⟩ := h.num 0
  obtain ⟨v2, r2, e2, a2, p2, q2, S2, lo2, hi2, k2, _, l2, x2⟩ := S1.num e1
  obtain ⟨v3, r3, e3, a3, p3, q3, S3, lo3, hi3, k3, _, l3, x3⟩ := S2.num e2
  obtain ⟨v4, r4, e4, a4, p4, q4, S4, lo4, hi4, k4, _, l4, x4⟩ := S3.num e3
  obtain ⟨well, hwell⟩ : ∃ b : Bool, b = ((((true && decide (v1 ≤ 9223372036854775807)) && decide (v2 ≤ 9223372036854775807)) && decide (v3 ≤ 9223372036854775807)) && decide (v4 ≤ 9223372036854775807)) := ⟨_, rfl⟩
  have hfour : rdFour.f r 0 = some ([wrap64 v1, wrap64 v2, wrap64 v3, wrap64 v4], well, r4, e4) := by
    unfold rdFour.f
    simp only [rdFour.go, p1, p2, p3, p4, Option.bind_some, List.nil_append, List.cons_append, hwell]
  have hz4 := S4.size
  have hb4 := S4.big
  have hlo4 := S4.lo
  have hw4 : wrap64 ((S.size : Int) - (r4.size : Int)) = a4 := by rw [w64 (by omega) (by omega)]; omega
  have q1' := Ev.all 30 q1
  have q2' := Ev.all 30 q2
  have q3' := Ev.all 30 q3
  have q4' := Ev.all 30 q4
  by_cases he4 : e4 = 0
  rotate_left
  · left
    refine ⟨e4, he4, ⟨zMv, r4, e4, ?_⟩, fun n out i h0 h1 h2 => ?_⟩
    · unfold rdMove.f
      simp only [hfour, Option.bind_some, ne_eq, he4, not_false_eq_true, if_true]
      exact Ev.now _
    · refine Ev.succ ?_
      simp only [bonsairef21_Decode.l0, if_pos (show i < wrap64 n by rw [w64 (by omega) (by omega)]; exact h1)]
      refine Ev.bind q1' (Ev.bind q2' (Ev.bind q3' (Ev.bind q4' ?_)))
      simp only [if_neg he4]
      exact Ev.now _
  subst he4
  obtain ⟨t, b, et, ht, htz, hte⟩ := take_both S hb4 a4 64 (by omega) (by omega)
  have ht1 : Ev (fun k => word_Take.f k S a4 64) (t, b, et) := Ev.all (S.size + 60) fun k hk => (ht k hk).1
  have ht2 : Ev (fun k => bonsairef04_Take.f k S a4 64) (t, b, et) := Ev.all (S.size + 60) fun k hk => (ht k hk).2
  by_cases het : et = 0
  rotate_left
  · left
    refine ⟨et, het, ⟨zMv, r4, 0, ?_⟩, fun n out i h0 h1 h2 => ?_⟩
    · unfold rdMove.f
      simp only [hfour, Option.bind_some, ne_eq, not_true_eq_false, if_false, hw4]
      refine Ev.bind ht1 ?_
      simp only [ne_eq, het, not_false_eq_true, if_true]
      exact Ev.now _
    · refine Ev.succ ?_
      simp only [bonsairef21_Decode.l0, if_pos (show i < wrap64 n by rw [w64 (by omega) (by omega)]; exact h1)]
      refine Ev.bind q1' (Ev.bind q2' (Ev.bind q3' (Ev.bind q4' ?_)))
      simp only [if_true]
      refine Ev.bind ht2 ?_
      simp only [if_neg het]
      exact Ev.now _
  subst het
  obtain ⟨_, v, nt, hvl, hn0, hn1, hnt, hab, hbS, htb, hnum, hv⟩ := hte rfl
  obtain ⟨tk, _⟩ := S4.take (b - a4) (by omega) (by omega)
  have S5 := S4.go (b - a4) (by omega) (by omega)
  rw [show a4 + (b - a4) = b by omega] at S5
  obtain ⟨r5, hr5⟩ : ∃ x, x = r4.extract (b - a4).toNat r4.size := ⟨_, rfl⟩
  rw [← hr5] at S5 tk
  have hwb : wrap64 (b - a4) = b - a4 := w64 (by omega) (by omega)
  by_cases h8 : r5.size < 8
  · left
    obtain ⟨⟨u, r', hf⟩, u2, a'', hf2⟩ := fix_short S5 h8
    refine ⟨2, by decide, ⟨zMv, r', 2, ?_⟩, fun n out i h0 h1 h2 => ?_⟩
    · unfold rdMove.f
      simp only [hfour, Option.bind_some, ne_eq, not_true_eq_false, if_false, hw4]
      refine Ev.bind ht1 ?_
      simp only [ne_eq, not_true_eq_false, if_false, hwb, tk, Option.bind_some, hf]
      exact Ev.now _
    · refine Ev.succ ?_
      simp only [bonsairef21_Decode.l0, if_pos (show i < wrap64 n by rw [w64 (by omega) (by omega)]; exact h1)]
      refine Ev.bind q1' (Ev.bind q2' (Ev.bind q3' (Ev.bind q4' ?_)))
      simp only [if_true]
      refine Ev.bind ht2 ?_
      simp only [if_true]
      refine Ev.bind hf2 ?_
      exact Ev.now _
  obtain ⟨hf, hf2⟩ := fix_sim S5 (by omega)
  have S6 := S5.go 8 (by omega) (by omega)
  obtain ⟨u, hu⟩ : ∃ x, x = fixV (r5.extract 0 8) := ⟨_, rfl⟩
  have hur := fixV_range (r5.extract 0 8) (size_take (by omega))
  have hu8 := fixB_val (r5.extract 0 8) (size_take (by omega))
  rw [← hu] at hf hf2 hur hu8
  obtain ⟨r6, hr6⟩ : ∃ x, x = r5.extract 8 r5.size := ⟨_, rfl⟩
  rw [show (8 : Int).toNat = 8 from rfl, ← hr6] at S6
  rw [← hr6] at hf
  obtain ⟨c1, c2⟩ := canon_is u hur.1 hur.2
  obtain ⟨f1, f2⟩ := float_is u hur.1 hur.2
  have hfb := FB_canon u hur.1 hur.2
  obtain ⟨fl, hfl⟩ : ∃ x, x = ((canonF u.toNat : Nat) : Int) := ⟨_, rfl⟩
  rw [← hfl] at f1 f2 hfb
  have o1 := one_is ⟨⟨wrap64 v1, wrap64 v2⟩, wrap64 v3, wrap64 v4, t, fl⟩
  have o2 := refOne_is ⟨⟨wrap64 v1, wrap64 v2⟩, wrap64 v3, wrap64 v4, t, fl⟩
  dsimp only at o1 o2
  obtain ⟨m, hm⟩ : ∃ x : Mv, x = ⟨⟨wrap64 v1, wrap64 v2⟩, wrap64 v3, wrap64 v4, t, fl⟩ := ⟨_, rfl⟩
  rw [← hm] at o1 o2
  have hbad : rdMove.bad well u (wrap64 v1) (wrap64 v2) (wrap64 v3) (wrap64 v4) t fl = some (!(well && canonB u && decide (OneP m))) := by
    unfold rdMove.bad
    cases well
    · rfl
    · rw [if_neg (by decide), c1]
      simp only [Option.bind_some]
      cases canonB u
      · rfl
      · rw [if_neg (by decide), o1]
        simp
  have hprog : Ev (fun k => rdMove.f k S r 0) (if (well && canonB u && decide (OneP m)) = true then (m, 0, r6, 0) else (zMv, 5, r6, 0)) := by
    unfold rdMove.f
    simp only [hfour, Option.bind_some, ne_eq, not_true_eq_false, if_false, hw4]
    refine Ev.bind ht1 ?_
    simp only [ne_eq, not_true_eq_false, if_false, hwb, tk, Option.bind_some, hf, f1, List.getD_cons_zero, List.getD_cons_succ, hbad]
    by_cases hg : (well && canonB u && decide (OneP m)) = true
    · simp only [hg, Bool.not_true, Bool.false_eq_true, if_false, if_true]
      rw [← hm]
      exact Ev.now _
    · simp only [hg, Bool.not_false, Bool.false_eq_true, if_false, if_true]
      exact Ev.now _
  have href : ∀ n out i R, 0 ≤ i → i < n → n ≤ 2000 → Ev (fun k => bonsairef21_Decode.j1 k S n out i v1 v2 v3 v4 t u (!(canonB u && well)) S (b + 8) 0) R → Ev (fun k => bonsairef21_Decode.l0 k S n out i S a 0) R := fun n out i R h0 h1 h2 hj => by
    refine Ev.succ ?_
    simp only [bonsairef21_Decode.l0, if_pos (show i < wrap64 n by rw [w64 (by omega) (by omega)]; exact h1)]
    refine Ev.bind q1' (Ev.bind q2' (Ev.bind q3' (Ev.bind q4' ?_)))
    simp only [if_true]
    refine Ev.bind ht2 ?_
    simp only [if_true]
    refine Ev.bind hf2 ?_
    simp only [if_true, c2, Option.bind_some]
    cases hc : canonB u
    · rw [hc] at hj
      simp only [Bool.false_eq_true, if_false]
      exact hj
    · rw [hc] at hj
      simp only [if_true]
      by_cases w1 : v1 ≥ 9223372036854775808
      · simp only [if_pos w1]
        rw [show well = false by rw [hwell, decide_eq_false (show ¬ v1 ≤ 9223372036854775807 by omega)]; rfl] at hj
        exact hj
      simp only [if_neg w1]
      by_cases w2 : v2 ≥ 9223372036854775808
      · simp only [if_pos w2]
        rw [show well = false by rw [hwell, decide_eq_false (show ¬ v2 ≤ 9223372036854775807 by omega)]; simp] at hj
        exact hj
      simp only [if_neg w2]
      by_cases w3 : v3 ≥ 9223372036854775808
      · simp only [if_pos w3]
        rw [show well = false by rw [hwell, decide_eq_false (show ¬ v3 ≤ 9223372036854775807 by omega)]; simp] at hj
        exact hj
      simp only [if_neg w3]
      rw [show (!(true && well)) = decide (v4 ≥ 9223372036854775808) by
        rw [hwell, decide_eq_true (show v1 ≤ 9223372036854775807 by omega), decide_eq_true (show v2 ≤ 9223372036854775807 by omega), decide_eq_true (show v3 ≤ 9223372036854775807 by omega)]
        by_cases w4 : v4 ≤ 9223372036854775807
        · rw [decide_eq_true w4, decide_eq_false (by omega)]; rfl
        · rw [decide_eq_false w4, decide_eq_true (by omega)]; rfl] at hj
      exact hj
  by_cases hg : (well && canonB u && decide (OneP m)) = true
  rotate_left
  · left
    rw [if_neg hg] at hprog
    refine ⟨5, by decide, ⟨zMv, r6, 0, hprog⟩, fun n out i h0 h1 h2 => href n out i _ h0 h1 h2 ?_⟩
    refine Ev.succ ?_
    simp only [bonsairef21_Decode.j1]
    by_cases hcw : (canonB u && well) = true
    · simp only [hcw, Bool.not_true, Bool.false_eq_true, if_false, f2, Option.bind_some]
      refine Ev.bind o2 ?_
      have : decide (OneP m) = false := by
        cases hd : decide (OneP m)
        · rfl
        · rw [hd, Bool.and_comm well, hcw] at hg; exact absurd rfl hg
      simp only [this, Bool.false_eq_true, if_false]
      exact Ev.now _
    · simp only [Bool.eq_false_iff.mpr hcw, Bool.not_false, if_true]
      exact Ev.now _
  right
  rw [if_pos hg] at hprog
  simp only [Bool.and_eq_true, decide_eq_true_eq] at hg
  obtain ⟨⟨hgw, hgc⟩, hgo⟩ := hg
  have hws : v1 ≤ 9223372036854775807 ∧ v2 ≤ 9223372036854775807 ∧ v3 ≤ 9223372036854775807 ∧ v4 ≤ 9223372036854775807 := by
    rw [hwell] at hgw
    simp only [Bool.true_and, Bool.and_eq_true, decide_eq_true_eq] at hgw
    omega
  have hflu : fl = u := by rw [hfl]; exact canon_fix u hur.1 hur.2 hgc
  refine ⟨m, r6, b + 8, ⟨S6, hgo, ?_, ?_, hprog⟩, fun n out i R h0 h1 h2 h3 hon => href n out i _ h0 h1 h2 ?_⟩
  · show FB m.f4.toNat m.f4
    rw [hm]
    show FB fl.toNat fl
    rw [hflu]
    rw [hflu] at hfb
    exact hfb
  · have he3 : e3 = 0 := by
      by_cases h : e3 = 0
      · exact h
      · exact (k4 h).2.1.symm
    subst he3
    have he2 : e2 = 0 := by
      by_cases h : e2 = 0
      · exact h
      · exact (k3 h).2.1.symm
    subst he2
    have he1 : e1 = 0 := by
      by_cases h : e1 = 0
      · exact h
      · exact (k2 h).2.1.symm
    subst he1
    obtain ⟨b1, _, _⟩ := num_read_put _ _ _ p1
    obtain ⟨b2, _, _⟩ := num_read_put _ _ _ p2
    obtain ⟨b3, _, _⟩ := num_read_put _ _ _ p3
    obtain ⟨b4, _, _⟩ := num_read_put _ _ _ p4
    obtain ⟨b5, _, _⟩ := num_read_put _ _ _ hnum
    have b6 : S.extract v.toNat S.size = t ++ r5 := by
      have := take_drop (S.extract v.toNat S.size) nt.toNat (by rw [ByteArray.size_extract]; omega)
      rw [ByteArray.extract_extract, ByteArray.extract_extract] at this
      rw [← this, htb, S5.rest]
      congr 1
      · congr 1 <;> omega
      · congr 1
        · omega
        · rw [ByteArray.size_extract]; omega
    have b7 : r5 = fixB u ++ r6 := by
      rw [hu8, hr6]
      exact (take_drop r5 8 (by omega)).symm
    have w (x : Int) (h0 : 0 ≤ x) (h1 : x ≤ 9223372036854775807) : IntKind.u64.wrap (wrap64 x) = x := by rw [w64 (by omega) h1, pack_wraps_u64 x h0 (by omega)]
    have hmB : oneB m = ((((putB v1 ++ putB v2) ++ putB v3) ++ putB v4) ++ (putB nt ++ t)) ++ fixB u := by
      rw [hm]
      unfold oneB headB
      dsimp only
      rw [w v1 lo1 hws.1, w v2 lo2 hws.2.1, w v3 lo3 hws.2.2.1, w v4 lo4 hws.2.2.2, hnt, hflu]
    rw [hmB, b1, b2, b3, b4, S4.rest, b5, b6, b7]
    simp only [ByteArray.append_assoc]
  · refine Ev.succ ?_
    simp only [bonsairef21_Decode.j1]
    simp only [hgc, hgw, Bool.and_true, Bool.not_true, Bool.false_eq_true, if_false, f2, Option.bind_some]
    refine Ev.bind o2 ?_
    simp only [hgo, decide_true, if_true]
    unfold Onward at hon
    rw [← hm]
    by_cases hi0 : 0 < i
    · simp only [if_pos (show i > 0 from hi0), w64 (show -9223372036854775808 ≤ i - 1 by omega) (by omega), if_pos (show (0 : Int) ≤ i - 1 by omega), if_pos (show i - 1 < (out.length : Int) by omega), refBefore_is, Option.bind_some]
      by_cases hb : BefP (rdM out (i - 1)) m
      · rw [if_neg (fun h => h.2 hb)] at hon
        have hb' : beforeB (rdM out (i - 1)).f0.f0 (rdM out (i - 1)).f0.f1 (wrap64 v1) (wrap64 v2) = true := by
          have := hb
          unfold BefP at this
          rw [hm] at this
          exact this
        simp only [hb', if_true, if_pos (show out.length < 2513169434916 by omega), w64 (show -9223372036854775808 ≤ i + 1 by omega) (by omega)]
        exact hon
      · rw [if_pos ⟨hi0, hb⟩] at hon
        have hb' : ¬ beforeB (rdM out (i - 1)).f0.f0 (rdM out (i - 1)).f0.f1 (wrap64 v1) (wrap64 v2) = true := by
          intro h
          apply hb
          unfold BefP
          rw [hm]
          exact h
        simp only [if_neg hb']
        rw [hon]
        exact Ev.now _
    · rw [if_neg (fun h => hi0 h.1)] at hon
      simp only [if_neg (show ¬ i > 0 from hi0), if_pos (show out.length < 2513169434916 by omega), w64 (show -9223372036854775808 ≤ i + 1 by omega) (by omega)]
      exact hon
end Go.Proofs.Ytfgnjndfnijjoaa.RowsD
end
section
namespace Go.Proofs.Ytfgnjndfnijjoaa.RowsE
set_option linter.unusedSimpArgs false
set_option linter.unusedVariables false
open Go.RowKit Go.Proofs.Ytfgnjndfnijjoaa.Print Go.Proofs.YtfgnjndfnijjoaaW.PrintWords Go.Proofs.YtfgnjndfnijjoaaW.PrintLast Go.Proofs.YtfgnjndfnijjoaaW.PrintMore Go.Proofs.Ytfgnjndfnijjoaa.LibA Go.Proofs.Ytfgnjndfnijjoaa.LibB Go.Proofs.Ytfgnjndfnijjoaa.LibC Go.Proofs.Ytfgnjndfnijjoaa.LibD Go.Proofs.Ytfgnjndfnijjoaa.LibE Go.Proofs.Ytfgnjndfnijjoaa.LibF Go.Proofs.Ytfgnjndfnijjoaa.LibG Go.Proofs.Ytfgnjndfnijjoaa.RowsA Go.Proofs.Ytfgnjndfnijjoaa.RowsB Go.Proofs.Ytfgnjndfnijjoaa.RowsC Go.Proofs.Ytfgnjndfnijjoaa.RowsL Go.Proofs.Ytfgnjndfnijjoaa.RowsD
theorem str_inj {a b : ByteArray} : a.toList = b.toList ↔ a = b := by
  constructor
  · intro h
    rw [ByteArray.toList_eq, ByteArray.toList_eq, Array.toList_inj] at h
    exact ByteArray.ext h
  · intro h
    rw [h]
def magicB : ByteArray := ⟨#[66, 78, 83, 73]⟩
def verOf (s : ByteArray) : Int × Int := if 4 ≤ s.size ∧ s.extract 0 4 = magicB then (if s.size = 4 then (0, 2) else (bt s 4, 0)) else (0, 7)
theorem version_is (s : ByteArray) : chunk_Version.f s = some (verOf s) := by
  unfold chunk_Version.f strings_CutPrefix.f stringslite_CutPrefix.f stringslite_HasPrefix.f verOf
  have hz : ((⟨#[66, 78, 83, 73]⟩ : ByteArray).size : Int) = 4 := rfl
  have hzn : (⟨#[66, 78, 83, 73]⟩ : ByteArray).size = 4 := rfl
  rw [hz, hzn]
  by_cases h4 : 4 ≤ s.size
  rotate_left
  · rw [if_neg (show ¬ (s.size : Int) ≥ 4 by omega), if_neg (show ¬ (4 ≤ s.size ∧ s.extract 0 4 = magicB) from fun h => h4 h.1)]
    rfl
  rw [if_pos (show (s.size : Int) ≥ 4 by omega), if_pos (by decide), if_pos (show (4 : Int) ≤ s.size by omega)]
  by_cases hm : s.extract 0 4 = magicB
  · rw [show ((s.extract 0 4).toList == (⟨#[66, 78, 83, 73]⟩ : ByteArray).toList) = true from beq_iff_eq.mpr (str_inj.mpr hm), if_pos (⟨h4, hm⟩ : 4 ≤ s.size ∧ s.extract 0 4 = magicB), if_pos (show (0 : Int) ≤ 4 by decide), if_pos (show (4 : Int) ≤ s.size by omega)]
    simp only [Option.bind_some, if_true]
    have hs : (s.extract 4 s.size).size = s.size - 4 := by rw [ByteArray.size_extract]; omega
    by_cases h5 : s.size = 4
    · have : s.extract 4 s.size = ByteArray.empty := by apply ByteArray.ext; simp; omega
      rw [this, if_pos (show ByteArray.empty.toList = [] by decide +kernel), if_pos h5]
    · have : (s.extract 4 s.size).toList ≠ [] := by
        intro h
        have : s.extract 4 s.size = ByteArray.empty := str_inj.mp (h.trans (by decide +kernel))
        rw [this] at hs
        have : ByteArray.empty.size = 0 := rfl
        omega
      rw [if_neg this, if_pos (by omega), if_neg h5, bt_drop (Nat.le_refl _) (by omega) (by omega)]
      have := bt_range s ((4 : Nat) + 0)
      rw [w64 (by omega) (by omega)]
      rfl
  · rw [show ((s.extract 0 4).toList == (⟨#[66, 78, 83, 73]⟩ : ByteArray).toList) = false from beq_eq_false_iff_ne.mpr (fun h => hm (str_inj.mp h)), if_neg (fun h : 4 ≤ s.size ∧ s.extract 0 4 = magicB => hm h.2)]
    rfl
theorem refVersion_is (s : ByteArray) : Ev (fun k => bonsairef11_Version.f k s) (verOf s) := by
  unfold bonsairef11_Version.f verOf
  by_cases h4 : 4 ≤ s.size
  rotate_left
  · simp only [if_pos (show (s.size : Int) < 4 by omega)]
    rw [if_neg (fun h => h4 h.1)]
    refine Ev.succ ?_
    simp only [bonsairef11_Version.j0, if_true]
    exact Ev.now _
  simp only [if_neg (show ¬ (s.size : Int) < 4 by omega), if_pos (show (4 : Int) ≤ s.size by omega)]
  by_cases hm : s.extract 0 4 = magicB
  · rw [if_pos (⟨h4, hm⟩ : 4 ≤ s.size ∧ s.extract 0 4 = magicB)]
    have e : ((s.extract 0 4).toList != ([66, 78, 83, 73] : List UInt8)) = false := bne_eq_false_iff_eq.mpr (by rw [hm]; decide +kernel)
    rw [e]
    refine Ev.succ ?_
    simp only [bonsairef11_Version.j0, Bool.false_eq_true, if_false]
    by_cases h5 : s.size = 4
    · simp only [if_pos (show (s.size : Int) < 5 by omega)]
      rw [if_pos h5]
      exact Ev.now _
    · have := bt_range s 4
      simp only [if_neg (show ¬ (s.size : Int) < 5 by omega), if_pos (show (4 : Int) < s.size by omega), w64 (show -9223372036854775808 ≤ bt s 4 by omega) (by omega)]
      rw [if_neg h5]
      exact Ev.now _
  · have e : ((s.extract 0 4).toList != ([66, 78, 83, 73] : List UInt8)) = true := bne_iff_ne.mpr (fun h => hm (str_inj.mp (h.trans (by decide +kernel))))
    rw [e, if_neg (fun h : 4 ≤ s.size ∧ s.extract 0 4 = magicB => hm h.2)]
    refine Ev.succ ?_
    simp only [bonsairef11_Version.j0, if_true]
    exact Ev.now _
structure Good (r : ByteArray) (out : List Mv) (c : Nat) (R : List Mv × Int) : Prop where
  none : R.2 ≠ 0 → R.1 = []
  some : R.2 = 0 → ∃ rest, R.1 = out ++ rest ∧ rest.length = c ∧ (∀ m ∈ rest, OneP m ∧ RankP m) ∧ r = flat rest ∧ ∀ j : Nat, 0 < j → out.length ≤ j → j < R.1.length → BefP (rdM R.1 ((j : Int) - 1)) (rdM R.1 j)
theorem rd_app_left (l r : List Mv) (j : Nat) (h : j < l.length) : rdM (l ++ r) (j : Int) = rdM l j := by
  rw [rd_mem (by simp; omega), rd_mem h, List.getElem_append_left h]
theorem rd_pred (l : List Mv) (j : Nat) (h : 0 < j) : rdM l ((j : Int) - 1) = rdM l ((j - 1 : Nat) : Int) := by
  rw [show ((j : Int) - 1) = ((j - 1 : Nat) : Int) by omega]
theorem decode_l (S : ByteArray) (n : Int) (hn : n ≤ 2000) (c : Nat) : ∀ (out : List Mv) (r : ByteArray) (a : Int), Sim S a r → (out.length : Int) + c = n →
    ∃ R, Ev (fun k => rows_Decode.g k S c out r 0) R ∧ Ev (fun k => bonsairef21_Decode.l0 k S n out out.length S a 0) R ∧ Good r out c R := by
  induction c with
  | zero =>
    intro out r a hS hc
    obtain ⟨hl1, hl2⟩ := hS.left 0
    refine ⟨if r.size = 0 then (out, 0) else ([], 5), ?_, ?_, ?_⟩
    · unfold rows_Decode.g pack_Reader_Done.f pack_Reader_Err.f
      simp only [Option.bind_some, if_true, hl1]
      by_cases h : r.size = 0
      · simp only [h, Int.natCast_zero, if_true, Option.bind_some, ne_eq, not_true_eq_false, if_false]
        exact Ev.now _
      · simp only [if_neg (show ¬ (r.size : Int) = 0 by omega), if_neg h, Option.bind_some]
        exact Ev.now _
    · refine Ev.succ ?_
      simp only [bonsairef21_Decode.l0, if_neg (show ¬ (out.length : Int) < wrap64 n by rw [w64 (by omega) (by omega)]; omega), hl2, Option.bind_some]
      by_cases h : r.size = 0
      · simp only [if_neg (show ¬ (r.size : Int) > 0 by omega), if_pos h]
        exact Ev.now _
      · simp only [if_pos (show (r.size : Int) > 0 by omega), if_neg h]
        exact Ev.now _
    · by_cases h : r.size = 0
      · rw [if_pos h]
        refine ⟨fun h => absurd rfl h, fun _ => ⟨[], by simp, rfl, by simp, ?_, fun j _ h1 h2 => absurd h2 (by show ¬ j < out.length; omega)⟩⟩
        exact ByteArray.ext (Array.eq_empty_of_size_eq_zero h)
      · rw [if_neg h]
        exact ⟨fun _ => rfl, fun h => absurd h (by decide)⟩
  | succ c ih =>
    intro out r a hS hc
    rcases RowsD.step S r a hS with ⟨e, he, ⟨m, r', e', hp⟩, hr⟩ | ⟨m, r', a', hg, hr⟩
    · refine ⟨([], e), ?_, hr n out out.length (by omega) (by omega) hn, ⟨fun _ => rfl, fun h => absurd h he⟩⟩
      unfold rows_Decode.g
      refine Ev.bind hp ?_
      simp only [ne_eq, he, not_false_eq_true, if_true]
      exact Ev.now _
    · obtain ⟨ob, hord, hob⟩ : ∃ b : Bool, Ev (fun k : Nat => if out.length = 0 then some true else rank_Before.f (rdM out ((out.length : Int) - 1)).f0.f0 (rdM out ((out.length : Int) - 1)).f0.f1 m.f0.f0 m.f0.f1) b ∧ (b = true ↔ ¬ (0 < (out.length : Int) ∧ ¬ BefP (rdM out ((out.length : Int) - 1)) m)) := by
        by_cases h0 : out.length = 0
        · simp only [if_pos h0]
          exact ⟨true, Ev.now _, fun _ h => by omega, fun _ => rfl⟩
        · simp only [if_neg h0, rank_Before.f]
          refine ⟨_, Ev.now _, fun h hn => hn.2 h, fun h => ?_⟩
          apply Classical.byContradiction
          intro hb
          exact h ⟨by omega, hb⟩
      by_cases ho : 0 < (out.length : Int) ∧ ¬ BefP (rdM out ((out.length : Int) - 1)) m
      · refine ⟨([], 12), ?_, hr n out out.length _ (by omega) (by omega) hn rfl (by unfold Onward; rw [if_pos ho]), ⟨fun _ => rfl, fun h => absurd h (by decide)⟩⟩
        unfold rows_Decode.g
        refine Ev.bind hg.prog ?_
        simp only [ne_eq, not_true_eq_false, if_false]
        refine Ev.bind hord ?_
        have hof : ob = false := by
          cases ob
          · rfl
          · exact absurd ho (hob.mp rfl)
        simp only [hof, if_true]
        exact Ev.now _
      · obtain ⟨R, h1, h2, h3⟩ := ih (out ++ [m]) r' a' hg.sim (by simp; omega)
        have h2' : Ev (fun k => bonsairef21_Decode.l0 k S n (out ++ [m]) ((out.length : Int) + 1) S a' 0) R := by
          rw [show (((out ++ [m]).length : Nat) : Int) = (out.length : Int) + 1 by simp] at h2
          exact h2
        refine ⟨R, ?_, hr n out out.length _ (by omega) (by omega) hn rfl (by unfold Onward; rw [if_neg ho]; exact h2'), h3.none, fun h => ?_⟩
        · unfold rows_Decode.g
          refine Ev.bind hg.prog ?_
          simp only [ne_eq, not_true_eq_false, if_false]
          refine Ev.bind hord ?_
          simp only [hob.mpr ho, Bool.true_eq_false, if_false]
          exact h1
        · obtain ⟨rest, e1, e2, e3, e4, e5⟩ := h3.some h
          refine ⟨m :: rest, by rw [e1]; simp, by simp [e2], ?_, by rw [hg.bytes, e4]; rfl, fun j j0 j1 j2 => ?_⟩
          · intro x hx
            rcases List.mem_cons.mp hx with rfl | hx
            · exact ⟨hg.one, hg.rank⟩
            · exact e3 x hx
          · by_cases hj : j = out.length
            · subst hj
              have hb : BefP (rdM out ((out.length : Int) - 1)) m := by
                apply Classical.byContradiction
                intro hb
                exact ho ⟨by omega, hb⟩
              have q1 : rdM R.1 ((out.length : Int) - 1) = rdM out ((out.length : Int) - 1) := by
                rw [rd_pred _ _ j0, rd_pred _ _ j0, e1, List.append_assoc, rd_app_left _ _ _ (by omega)]
              have q2 : rdM R.1 (out.length : Int) = m := by
                rw [rd_mem j2]
                simp [e1]
              rw [q1, q2]
              exact hb
            · exact e5 j j0 (by simp; omega) j2
structure Reads (s : ByteArray) (R : List Mv × Int) : Prop where
  prog : Ev (fun k => rows_Decode.f k s) R
  ref : Ev (fun k => bonsairef21_Decode.f k s) R
  none : R.2 ≠ 0 → R.1 = []
  may : R.2 = 0 → MayP R.1 ∧ (∀ m ∈ R.1, RankP m) ∧ s = fileB R.1
theorem decode_is (s : ByteArray) (hs : s.size ≤ 140737488351232) : ∃ R, Reads s R := by
  have hv := version_is s
  have hr := refVersion_is s
  obtain ⟨V, hV⟩ : ∃ V, V = verOf s := ⟨_, rfl⟩
  rw [← hV] at hv hr
  by_cases he : V.2 = 0
  rotate_left
  · refine ⟨([], V.2), ?_, ?_, fun _ => rfl, fun h => absurd h he⟩
    · unfold rows_Decode.f
      simp only [hv, Option.bind_some, ne_eq, he, not_false_eq_true, if_true]
      exact Ev.now _
    · unfold bonsairef21_Decode.f
      refine Ev.bind hr ?_
      simp only [if_neg he]
      exact Ev.now _
  by_cases h1 : V.1 = 1
  rotate_left
  · refine ⟨([], 8), ?_, ?_, fun _ => rfl, fun h => absurd h (by decide)⟩
    · unfold rows_Decode.f
      simp only [hv, Option.bind_some, ne_eq, he, not_true_eq_false, if_false, h1, not_false_eq_true, if_true]
      exact Ev.now _
    · unfold bonsairef21_Decode.f
      refine Ev.bind hr ?_
      simp only [if_pos he, if_neg h1]
      exact Ev.now _
  have hfacts : 5 ≤ s.size ∧ s.extract 0 4 = magicB ∧ bt s 4 = 1 := by
    unfold verOf at hV
    by_cases hm : 4 ≤ s.size ∧ s.extract 0 4 = magicB
    · rw [if_pos hm] at hV
      by_cases h4 : s.size = 4
      · rw [if_pos h4] at hV
        rw [hV] at he
        exact absurd he (by decide)
      · rw [if_neg h4] at hV
        rw [hV] at h1
        exact ⟨by have := hm.1; omega, hm.2, h1⟩
    · rw [if_neg hm] at hV
      rw [hV] at he
      exact absurd he (by decide)
  obtain ⟨h5, hmg, hb4⟩ := hfacts
  have hbeg : s.extract 0 5 = beginB := by
    refine ba_ext (by rw [size_take h5]; rfl) (fun i h0 hi => ?_)
    rw [size_take h5] at hi
    rw [bt_take h5 h0 hi]
    by_cases h4 : i < 4
    · have e := bt_take (show 4 ≤ s.size by omega) h0 (show i < (4 : Nat) by omega)
      rw [hmg] at e
      rw [← e]
      have : i = 0 ∨ i = 1 ∨ i = 2 ∨ i = 3 := by omega
      rcases this with rfl | rfl | rfl | rfl <;> decide +kernel
    · obtain rfl : i = 4 := by omega
      rw [hb4]
      decide +kernel
  have hS := Sim.begin s hs 5 (by omega) (by omega)
  rw [show (5 : Int).toNat = 5 from rfl] at hS
  obtain ⟨v, r1, e1, a1, p1, q1, S1, lo1, hi1, _, _, _, x1⟩ := hS.num 0
  have q1' := Ev.all 30 q1
  have startP : ∀ R, (Ev (fun k => if e1 ≠ 0 then some ([], e1) else if v > 2000 then some ([], 10) else if v < 0 then none else rows_Decode.g k s v.toNat [] r1 e1) R) → Ev (fun k => rows_Decode.f k s) R := fun R h => by
    unfold rows_Decode.f
    simp only [hv, Option.bind_some, ne_eq, he, h1, not_true_eq_false, if_false, if_pos (show 5 ≤ (s.size : Int) by omega), pack_New.f, p1]
    exact h
  have startR : ∀ R, (Ev (fun k => if e1 = 0 then (if v > 2000 then some (([] : List Mv), (10 : Int)) else bonsairef21_Decode.l0 k s v [] 0 s a1 e1) else some ([], e1)) R) → Ev (fun k => bonsairef21_Decode.f k s) R := fun R h => by
    unfold bonsairef21_Decode.f
    refine Ev.bind hr ?_
    simp only [if_pos he, if_pos h1]
    exact Ev.bind q1' h
  by_cases hee : e1 = 0
  rotate_left
  · refine ⟨([], e1), startP _ ?_, startR _ ?_, fun _ => rfl, fun h => absurd h hee⟩
    · simp only [ne_eq, hee, not_false_eq_true, if_true]; exact Ev.now _
    · simp only [if_neg hee]; exact Ev.now _
  by_cases hbig : v > 2000
  · refine ⟨([], 10), startP _ ?_, startR _ ?_, fun _ => rfl, fun h => absurd h (by decide)⟩
    · simp only [ne_eq, hee, not_true_eq_false, if_false, if_pos hbig]; exact Ev.now _
    · simp only [if_pos hee, if_pos hbig]; exact Ev.now _
  subst hee
  obtain ⟨R, g1, g2, g3⟩ := decode_l s v (by omega) v.toNat [] r1 a1 S1 (by simp; omega)
  refine ⟨R, startP _ ?_, startR _ ?_, g3.none, fun h => ?_⟩
  · simp only [ne_eq, not_true_eq_false, if_false, if_neg hbig, if_neg (show ¬ v < 0 by omega)]; exact g1
  · simp only [if_true, if_neg hbig]; exact g2
  · obtain ⟨rest, c1, c2, c3, c4, c5⟩ := g3.some h
    rw [List.nil_append] at c1
    subst c1
    refine ⟨⟨by omega, fun m hm => (c3 m hm).1, fun i h0 hi => c5 i h0 (by simp) hi⟩, fun m hm => (c3 m hm).2, ?_⟩
    obtain ⟨b1, _, _⟩ := num_read_put _ _ _ p1
    have := take_drop s 5 (by omega)
    rw [← this, hbeg, b1, c4]
    unfold fileB
    rw [show v = ((R.1.length : Nat) : Int) by omega, ByteArray.append_assoc]
theorem alike_refl (m : Mv) : bonsairef13_Alike.f m.f0.f0 m.f0.f1 m.f1 m.f2 m.f3 m.f4 m.f0.f0 m.f0.f1 m.f1 m.f2 m.f3 m.f4 = some true := by
  unfold bonsairef13_Alike.f bonsairef13_Row.f bonsairef12_Alike.f bonsairef01_Same.f bonsairef01_Bits.f
  simp
theorem same_l (l : List Mv) (hl : l.length ≤ 9223372036854775807) (d : Nat) : ∀ i : Nat, l.length ≤ i + d → Ev (fun k => bonsairef13_Same.l0 k l l i) true := by
  induction d with
  | zero =>
    intro i h
    refine Ev.succ ?_
    simp only [bonsairef13_Same.l0, if_neg (show ¬ (i : Int) < (l.length : Int) by omega)]
    exact Ev.now _
  | succ d ih =>
    intro i h
    by_cases hlt : i < l.length
    rotate_left
    · exact ih i (by omega)
    refine Ev.succ ?_
    simp only [bonsairef13_Same.l0, if_pos (show (i : Int) < (l.length : Int) by omega), if_pos (show (0 : Int) ≤ (i : Int) by omega), alike_refl, Option.bind_some, if_true, w64 (show -9223372036854775808 ≤ (i : Int) + 1 by omega) (by omega)]
    exact ih (i + 1) (by omega)
theorem same_refl (l : List Mv) (hl : l.length ≤ 9223372036854775807) : Ev (fun k => bonsairef13_Same.f k l l) true := by
  unfold bonsairef13_Same.f
  simp only [if_true]
  exact same_l l hl l.length 0 (by omega)
theorem reads_len {s : ByteArray} {R : List Mv × Int} (h : Reads s R) : R.1.length ≤ 9223372036854775807 := by
  by_cases he : R.2 = 0
  · have := (h.may he).1.few
    omega
  · rw [h.none he]
    decide
end Go.Proofs.Ytfgnjndfnijjoaa.RowsE
end
section
namespace Go.Proofs.Ytfgnjndfnijjoaa.Pure
open Go.RowKit Go.Proofs.Ytfgnjndfnijjoaa.Print Go.Proofs.YtfgnjndfnijjoaaW.PrintWords Go.Proofs.YtfgnjndfnijjoaaW.PrintLast Go.Proofs.YtfgnjndfnijjoaaW.PrintMore Go.Proofs.Ytfgnjndfnijjoaa.LibA Go.Proofs.Ytfgnjndfnijjoaa.LibB Go.Proofs.Ytfgnjndfnijjoaa.LibC Go.Proofs.Ytfgnjndfnijjoaa.LibD Go.Proofs.Ytfgnjndfnijjoaa.LibE Go.Proofs.Ytfgnjndfnijjoaa.LibF Go.Proofs.Ytfgnjndfnijjoaa.LibG Go.Proofs.Ytfgnjndfnijjoaa.RowsA Go.Proofs.Ytfgnjndfnijjoaa.RowsB Go.Proofs.Ytfgnjndfnijjoaa.RowsC Go.Proofs.Ytfgnjndfnijjoaa.RowsL Go.Proofs.Ytfgnjndfnijjoaa.RowsD Go.Proofs.Ytfgnjndfnijjoaa.RowsE
theorem reads_of (s : ByteArray) (h : s.size ≤ 140737488351232) : ∃ k, bonsailaw21_RowsReads.f k s = some true := by
  refine Ev.rounds (g := fun k => bonsailaw21_RowsReads.f k s) ?_
  unfold bonsailaw21_RowsReads.f
  by_cases hb : (s.size : Int) > 1000
  · simp only [if_pos hb]
    exact Ev.bind live_ev (Ev.now _)
  · simp only [if_neg hb, if_pos (show 5 + s.size ≤ 9223372036854775807 by omega)]
    obtain ⟨R, hR⟩ := decode_is s h
    obtain ⟨Q, hQ⟩ := decode_is (beginB ++ s) (by rw [ByteArray.size_append, beginB_size]; omega)
    refine Ev.bind hR.prog (Ev.bind hR.ref (Ev.bind hQ.prog (Ev.bind hQ.ref ?_)))
    refine Ev.bind (same_refl R.1 (reads_len hR)) ?_
    simp only [if_true]
    refine Ev.bind (same_refl Q.1 (reads_len hQ)) ?_
    simp only [if_true]
    exact Ev.bind live_ev (Ev.now _)
theorem RowsReads : bonsailaw21_RowsReads.Pure := by
  unfold bonsailaw21_RowsReads.Pure
  intro s h
  exact reads_of s h
end Go.Proofs.Ytfgnjndfnijjoaa.Pure
end
