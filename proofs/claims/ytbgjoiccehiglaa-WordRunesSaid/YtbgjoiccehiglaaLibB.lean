/- The references' signs, where they end, how many they are and where a text is cut: what the program's are. -/
import Derived.Test.YtbgjoiccehiglaaLibA
import Derived.Test.YtbgjoiccehiglaaPrint6
namespace Go.Proofs.Ytbgjoiccehiglaa.LibB
open Go.RowKit Go.Proofs.Ytbgjoiccehiglaa.Print Go.Proofs.YtbgjoiccehiglaaW.PrintWords Go.Proofs.YtbgjoiccehiglaaW.PrintLast Go.Proofs.YtbgjoiccehiglaaW.PrintMore Go.Proofs.Ytbgjoiccehiglaa.LibA

theorem w64 {n : Int} (h0 : -9223372036854775808 ≤ n) (h1 : n ≤ 9223372036854775807) : wrap64 n = n := by unfold wrap64; omega
theorem sign_at {s : ByteArray} {i m : Int} (h0 : 0 ≤ i) (hs : s.size ≤ 140737488351232) (h : SgAt s i m) : bonsairef04_sign.f s i = some m := by
  have := h.pos
  unfold bonsairef04_sign.f
  rw [if_pos ⟨h0, by omega, by omega⟩, sgStep_some.mpr h]
  rfl
theorem sign_none {s : ByteArray} {i : Int} (h0 : 0 ≤ i) (hi : i < s.size) (hs : s.size ≤ 140737488351232) (h : ∀ m, ¬ SgAt s i m) : bonsairef04_sign.f s i = some 0 := by
  unfold bonsairef04_sign.f
  rw [if_pos ⟨h0, hi, by omega⟩]
  cases hh : sgStep s i with
  | none => rfl
  | some m => exact absurd (sgStep_some.mp hh) (h m)
/-- From i on, over c signs to j, where none begins. -/
theorem first_l {s : ByteArray} (hs : s.size ≤ 140737488351232) {c : Nat} {i j : Int} (h : Ch s c i j) : ∀ k, 0 ≤ i → j ≤ s.size → (∀ m, ¬ SgAt s j m) → bonsairef04_First.l0 (c + 1 + k) s i = some (if j < s.size then (j, true) else (0, false)) := by
  induction h with
  | nil i =>
    intro k h0 hj hn
    rw [show 0 + 1 + k = k + 1 by omega]
    simp only [bonsairef04_First.l0]
    by_cases hi : i < (s.size : Int)
    · rw [if_pos hi, if_pos hi, sign_none h0 hi hs hn]
      rfl
    · rw [if_neg hi, if_neg hi]
  | @cons n i m j h t ih =>
    intro k h0 hj hn
    have hp := h.pos
    rw [show n + 1 + 1 + k = (n + 1 + k) + 1 by omega]
    simp only [bonsairef04_First.l0]
    rw [if_pos (by omega), sign_at h0 hs h]
    simp only [Option.bind_some]
    rw [if_neg (by omega), w64 (by omega) (by omega)]
    exact ih k (by omega) hj hn
theorem count_l {s : ByteArray} (hs : s.size ≤ 140737488351232) {c : Nat} {i j : Int} (h : Ch s c i j) : ∀ (k : Nat) (n : Int), 0 ≤ i → j = s.size → 0 ≤ n → n ≤ i → bonsairef04_Count.l0 (c + 1 + k) s n i = some (n + c, true) := by
  induction h with
  | nil i =>
    intro k n h0 hj hn0 hn
    rw [show 0 + 1 + k = k + 1 by omega]
    simp only [bonsairef04_Count.l0]
    rw [if_neg (by omega)]
    simp
  | @cons n' i m j h t ih =>
    intro k n h0 hj hn0 hn
    have hp := h.pos
    rw [show n' + 1 + 1 + k = (n' + 1 + k) + 1 by omega]
    simp only [bonsairef04_Count.l0]
    rw [if_pos (by omega), sign_at h0 hs h]
    simp only [Option.bind_some]
    rw [w64 (by omega) (by omega), w64 (by omega) (by omega), ih k (n + 1) (by omega) hj (by omega) (by omega)]
    congr 2
    omega
/-- What is told of a text once its signs are known. -/
structure Tells (s : ByteArray) (c : Nat) (j : Int) : Prop where
  signs : word_signs.f s = some ((c : Int), j)
  ch : Ch s c 0 j
  lo : 0 ≤ j
  hi : j ≤ s.size
  stop : ∀ m, ¬ SgAt s j m
  few : (c : Int) ≤ j
theorem tells (s : ByteArray) (hs : s.size ≤ 140737488351232) : ∃ c j, Tells s c j := by
  obtain ⟨c, j, h, hc, h0, hj, hn⟩ := signs_ch s
  exact ⟨c, j, by unfold word_signs.f; rw [if_pos (by omega), h], hc, h0, hj, hn, by have := hc.le; omega⟩
theorem Tells.vld {s : ByteArray} {c : Nat} {j : Int} (t : Tells s c j) : Vld s ↔ j = s.size := vld_iff t.ch t.stop t.hi
theorem Tells.wordFirst {s : ByteArray} {c : Nat} {j : Int} (t : Tells s c j) : word_First.f s = some (if j < s.size then (j, true) else (0, false)) := by
  unfold word_First.f
  rw [t.signs]
  simp only [Option.bind_some]
  split <;> rfl
theorem Tells.wordCount {s : ByteArray} {c : Nat} {j : Int} (t : Tells s c j) : word_Count.f s = some (if j < s.size then (0, false) else ((c : Int), true)) := by
  unfold word_Count.f
  rw [t.signs]
  simp only [Option.bind_some]
  split <;> rfl
noncomputable instance (s : ByteArray) : Decidable (Vld s) := Classical.propDecidable _
theorem Tells.wordValid {s : ByteArray} {c : Nat} {j : Int} (t : Tells s c j) : word_Valid.f s = some (decide (Vld s)) := by
  unfold word_Valid.f
  rw [t.signs]
  simp only [Option.bind_some]
  congr 1
  by_cases h : j = (s.size : Int)
  · simp [h, t.vld]
  · simp [h, t.vld]
theorem wordValid (s : ByteArray) (hs : s.size ≤ 140737488351232) : word_Valid.f s = some (decide (Vld s)) := by
  obtain ⟨c, j, t⟩ := tells s hs
  exact t.wordValid
theorem Tells.refFirst {s : ByteArray} {c : Nat} {j : Int} (t : Tells s c j) (hs : s.size ≤ 140737488351232) (k : Nat) : bonsairef04_First.f (c + 1 + k) s = word_First.f s := by
  rw [t.wordFirst]
  exact first_l hs t.ch k (by omega) t.hi t.stop
theorem Tells.refValid {s : ByteArray} {c : Nat} {j : Int} (t : Tells s c j) (hs : s.size ≤ 140737488351232) (k : Nat) : bonsairef04_Valid.f (c + 1 + k) s = word_Valid.f s := by
  unfold bonsairef04_Valid.f
  rw [t.refFirst hs, t.wordFirst, t.wordValid]
  simp only [Option.bind_some]
  congr 1
  have := t.hi
  by_cases h : j < (s.size : Int)
  · rw [if_pos h]; simp [t.vld]; omega
  · rw [if_neg h]; simp [t.vld]; omega
theorem Tells.refCount {s : ByteArray} {c : Nat} {j : Int} (t : Tells s c j) (hs : s.size ≤ 140737488351232) (k : Nat) : bonsairef04_Count.f (c + 1 + k) s = word_Count.f s := by
  unfold bonsairef04_Count.f
  rw [t.refValid hs, t.wordValid, t.wordCount]
  simp only [Option.bind_some, decide_eq_true_eq]
  have := t.hi
  by_cases h : j < (s.size : Int)
  · rw [if_pos h, if_neg (by rw [t.vld]; omega)]
  · rw [if_neg h, if_pos (by rw [t.vld]; omega), count_l hs t.ch k 0 (by omega) (by omega) (by omega) (by omega)]
    simp
/-- The longest begin of at most n bytes that is valid. -/
theorem wordCut {s : ByteArray} (hs : s.size ≤ 140737488351232) (most : Int) : ∃ (n e : Nat), n = (mn (mx most 0) s.size).toNat ∧ n ≤ s.size ∧ e ≤ n ∧ word_Cut.f s most = some (s.extract 0 e) ∧ Vld (s.extract 0 e) ∧ ∀ e' : Nat, e < e' → e' ≤ n → ¬ Vld (s.extract 0 e') := by
  obtain ⟨n, hn⟩ : ∃ n : Nat, n = (mn (mx most 0) s.size).toNat := ⟨_, rfl⟩
  have hmn : 0 ≤ mn (mx most 0) (s.size : Int) ∧ mn (mx most 0) (s.size : Int) ≤ s.size := by unfold mn mx; (repeat' split) <;> omega
  have hns : n ≤ s.size := by omega
  obtain ⟨c, j, t⟩ := tells (s.extract 0 n) (by rw [size_take hns]; omega)
  have hj := t.hi
  have hj0 := t.lo
  rw [size_take hns] at hj
  refine ⟨n, j.toNat, hn, hns, by omega, ?_, ?_, ?_⟩
  · unfold word_Cut.f
    rw [if_pos hmn.1, if_pos hmn.2, ← hn, t.signs]
    simp only [Option.bind_some]
    rw [if_pos hj0, if_pos t.hi]
    congr 1
    rw [ByteArray.extract_extract]
    congr 1
    omega
  · rw [vld_take (by omega)]
    exact ⟨c, by have := t.ch.of_take hns (by omega) (by omega); rwa [show ((j.toNat : Nat) : Int) = j by omega]⟩
  · intro e' h1 h2 hv
    rw [vld_take (by omega)] at hv
    obtain ⟨c', h'⟩ := hv
    have h'' := h'.to_take hns (by omega) (by omega)
    rcases h''.split t.ch with ⟨c2, _, h3⟩ | ⟨c2, m, hm, h3⟩
    · have := h3.le
      omega
    · exact t.stop m hm
theorem refCut_l {s : ByteArray} (hs : s.size ≤ 140737488351232) (e : Nat) (hv : Vld (s.extract 0 e)) : ∀ (d : Nat) (k : Nat), e + d ≤ s.size → (∀ e' : Nat, e < e' → e' ≤ e + d → ¬ Vld (s.extract 0 e')) → s.size + 2 + d ≤ k → bonsairef04_Cut.l0 k s ((e + d : Nat) : Int) = some (s.extract 0 e)
  | 0, k, hd, hn, hk => by
    obtain ⟨k, rfl⟩ : ∃ m, k = m + 1 := ⟨k - 1, by omega⟩
    simp only [bonsairef04_Cut.l0, Nat.add_zero]
    by_cases h0 : e = 0
    · subst h0
      rw [if_neg (by omega)]
      congr 1
      ext1
      simp
    · obtain ⟨c, j, t⟩ := tells (s.extract 0 e) (by rw [size_take (by omega)]; omega)
      have hc : c ≤ e := by have := t.few; have := t.hi; rw [size_take (by omega)] at this; omega
      rw [if_pos (by omega), if_pos (by omega), if_pos (by omega), Int.toNat_natCast]
      have := t.refValid (by rw [size_take (by omega)]; omega) (k - (c + 1))
      rw [show c + 1 + (k - (c + 1)) = k by omega] at this
      rw [this, t.wordValid]
      simp [hv]
  | d + 1, k, hd, hn, hk => by
    obtain ⟨k, rfl⟩ : ∃ m, k = m + 1 := ⟨k - 1, by omega⟩
    simp only [bonsairef04_Cut.l0]
    obtain ⟨c, j, t⟩ := tells (s.extract 0 (e + (d + 1))) (by rw [size_take (by omega)]; omega)
    have hc : c ≤ e + (d + 1) := by have := t.few; have := t.hi; rw [size_take (by omega)] at this; omega
    rw [if_pos (by omega), if_pos (by omega), if_pos (by omega), Int.toNat_natCast]
    have := t.refValid (by rw [size_take (by omega)]; omega) (k - (c + 1))
    rw [show c + 1 + (k - (c + 1)) = k by omega] at this
    rw [this, t.wordValid]
    simp only [Option.bind_some, decide_eq_true_eq]
    rw [if_neg (hn _ (by omega) (by omega)), w64 (by omega) (by omega), show (((e + (d + 1) : Nat) : Int) - 1) = ((e + d : Nat) : Int) by omega]
    exact refCut_l hs e hv d k (by omega) (fun e' h1 h2 => hn e' h1 (by omega)) (by omega)
theorem refCut {s : ByteArray} (hs : s.size ≤ 140737488351232) (most : Int) : ∀ k, 2 * s.size + 2 ≤ k → bonsairef04_Cut.f k s most = word_Cut.f s most := by
  intro k hk
  obtain ⟨n, e, hn, hns, hen, hf, hv, hmax⟩ := wordCut hs most
  rw [hf]
  unfold bonsairef04_Cut.f
  by_cases hm : most < 0
  · have h0 : mn most (s.size : Int) = most := by unfold mn; split <;> omega
    have hn0 : n = 0 := by rw [hn]; unfold mn mx; (repeat' split) <;> omega
    obtain ⟨k, rfl⟩ : ∃ m, k = m + 1 := ⟨k - 1, by omega⟩
    rw [h0]
    simp only [bonsairef04_Cut.l0]
    rw [if_neg (by omega)]
    have : e = 0 := by omega
    subst this
    congr 1
    ext1
    simp
  · have h0 : mn most (s.size : Int) = ((e + (n - e) : Nat) : Int) := by
      rw [show e + (n - e) = n by omega, hn]
      unfold mn mx
      (repeat' split) <;> omega
    rw [h0]
    exact refCut_l hs e hv (n - e) k (by omega) (fun e' h1 h2 => hmax e' h1 (by omega)) (by omega)
end Go.Proofs.Ytbgjoiccehiglaa.LibB
