/- Plain laws about the signs (UTF-8) of a text: how they follow one another, in a text, in its begins, in texts that are put together. -/
import Derived.Test.YtbgjoiccehiglaaPrint2
namespace Go.Proofs.Ytbgjoiccehiglaa.LibA
open Go.RowKit Go.Proofs.Ytbgjoiccehiglaa.Print Go.Proofs.YtbgjoiccehiglaaW.PrintWords Go.Proofs.YtbgjoiccehiglaaW.PrintLast

/-- A sign of m bytes stands at i. -/
def SgAt (s : ByteArray) (i m : Int) : Prop :=
  (sgH (bt s i)).2.2.2 = true ∧ m = 1 + (sgH (bt s i)).1 ∧ i + m ≤ s.size ∧ sgR s (sgH (bt s i)).1.toNat (i + 1) (sgH (bt s i)).2.1 (sgH (bt s i)).2.2.1 = true
theorem sgStep_some {s : ByteArray} {i m : Int} : sgStep s i = some m ↔ SgAt s i m := by
  unfold sgStep SgAt
  constructor
  · intro h
    split at h
    · cases h
    · split at h
      · cases h
      · split at h
        · cases h
          rename_i h1 h2 h3
          exact ⟨by simpa using h1, rfl, by omega, h3⟩
        · cases h
  · rintro ⟨h1, rfl, h3, h4⟩
    rw [if_neg (by simp [h1]), if_neg (by omega), if_pos h4]
theorem SgAt.pos {s : ByteArray} {i m : Int} (h : SgAt s i m) : 1 ≤ m ∧ m ≤ 4 ∧ i + m ≤ s.size := by
  have := sgH_rest (bt s i)
  obtain ⟨_, rfl, h3, _⟩ := h
  omega
theorem SgAt.det {s : ByteArray} {i m m' : Int} (h : SgAt s i m) (h' : SgAt s i m') : m = m' := by
  rw [h.2.1, h'.2.1]
theorem sgR_shift (s t : ByteArray) : ∀ (m : Nat) (i j lo hi : Int), (∀ d : Int, 0 ≤ d → d < m → bt s (i + d) = bt t (j + d)) → sgR s m i lo hi = sgR t m j lo hi
  | 0, _, _, _, _, _ => rfl
  | m + 1, i, j, lo, hi, h => by
    have h0 := h 0 (by omega) (by omega)
    simp only [Int.add_zero] at h0
    simp only [sgR, h0]
    rw [sgR_shift s t m (i + 1) (j + 1) 128 191 (fun d h1 h2 => by have := h (1 + d) (by omega) (by omega); rw [show i + 1 + d = i + (1 + d) by omega, show j + 1 + d = j + (1 + d) by omega]; exact this)]
theorem SgAt.shift {s t : ByteArray} {i j m : Int} (h : SgAt s i m) (hb : ∀ d : Int, 0 ≤ d → d < m → bt s (i + d) = bt t (j + d)) (hj : j + m ≤ t.size) : SgAt t j m := by
  have hp := h.pos
  have hr := sgH_rest (bt s i)
  obtain ⟨h1, h2, h3, h4⟩ := h
  have h0 := hb 0 (by omega) (by omega)
  simp only [Int.add_zero] at h0
  unfold SgAt
  rw [← h0]
  refine ⟨h1, h2, hj, ?_⟩
  rw [← sgR_shift s t _ (i + 1) (j + 1) _ _ (fun d hd0 hd1 => by have := hb (1 + d) (by omega) (by omega); rw [show i + 1 + d = i + (1 + d) by omega, show j + 1 + d = j + (1 + d) by omega]; exact this)]
  exact h4
/-- n signs lead from i to j. -/
inductive Ch (s : ByteArray) : Nat → Int → Int → Prop
  | nil (i : Int) : Ch s 0 i i
  | cons {n : Nat} {i m j : Int} (h : SgAt s i m) (t : Ch s n (i + m) j) : Ch s (n + 1) i j
theorem Ch.le {s : ByteArray} {n : Nat} {i j : Int} (h : Ch s n i j) : i + n ≤ j ∧ j ≤ i + 4 * n := by
  induction h with
  | nil => omega
  | cons h t ih => have := h.pos; omega
theorem Ch.size {s : ByteArray} {n : Nat} {i j : Int} (h : Ch s n i j) (hi : i ≤ s.size) : j ≤ s.size := by
  induction h with
  | nil => exact hi
  | cons h t ih => exact ih h.pos.2.2
theorem Ch.snoc {s : ByteArray} {n : Nat} {i j m : Int} (h : Ch s n i j) (hm : SgAt s j m) : Ch s (n + 1) i (j + m) := by
  induction h with
  | nil => exact .cons hm (.nil _)
  | cons h t ih => exact .cons h (ih hm)
theorem Ch.trans {s : ByteArray} {n n' : Nat} {i j k : Int} (h : Ch s n i j) (h' : Ch s n' j k) : Ch s (n + n') i k := by
  induction h with
  | nil => simpa using h'
  | cons h t ih => rw [show ∀ a b : Nat, a + 1 + b = (a + b) + 1 by omega]; exact .cons h (ih h')
theorem Ch.shift {s t : ByteArray} {n : Nat} {i j o : Int} (h : Ch s n i j) (hb : ∀ d : Int, i ≤ d → d < j → bt s d = bt t (o + d)) (hj : o + j ≤ t.size) : Ch t n (o + i) (o + j) := by
  induction h with
  | nil => exact .nil _
  | cons h t' ih =>
    have := t'.le
    have := h.pos
    refine .cons (h.shift (fun d h0 h1 => by rw [hb _ (by omega) (by omega), Int.add_assoc]) (by omega)) ?_
    rw [Int.add_assoc]
    exact ih (fun d h0 h1 => hb d (by omega) h1) hj
/-- Two ways from one place: the one that is no longer is the other one's begin. -/
theorem Ch.split {s : ByteArray} {n n' : Nat} {i j j' : Int} (h : Ch s n i j) (h' : Ch s n' i j') : (∃ c, n' = n + c ∧ Ch s c j j') ∨ (∃ c m, SgAt s j' m ∧ Ch s c (j' + m) j) := by
  induction h generalizing n' with
  | nil => exact .inl ⟨n', by omega, h'⟩
  | cons h t ih =>
    cases h' with
    | nil => exact .inr ⟨_, _, h, t⟩
    | cons h2 t2 =>
      have := h.det h2
      subst this
      rcases ih t2 with ⟨c, hc, hch⟩ | r
      · exact .inl ⟨c, by omega, hch⟩
      · exact .inr r
/-- Where the signs of a text end, from i on, and how many there are. -/
theorem sgL_ch (s : ByteArray) : ∀ (k : Nat) (n i : Int), 0 ≤ i → i ≤ s.size → (s.size : Int) - i < k → ∃ c : Nat, ∃ j : Int, sgL s k n i = (n + c, j) ∧ Ch s c i j ∧ j ≤ s.size ∧ ∀ m, ¬ SgAt s j m
  | 0, n, i, h0, h1, hk => by omega
  | k + 1, n, i, h0, h1, hk => by
    simp only [sgL]
    by_cases hi : i < (s.size : Int)
    · rw [if_pos hi]
      cases hs : sgStep s i with
      | none => exact ⟨0, i, by simp, .nil _, h1, fun m hm => by rw [sgStep_some.mpr hm] at hs; cases hs⟩
      | some m =>
        have hm := sgStep_some.mp hs
        have := hm.pos
        obtain ⟨c, j, h, hc, hj, hn⟩ := sgL_ch s k (n + 1) (i + m) (by omega) (by omega) (by omega)
        exact ⟨c + 1, j, by show sgL s k (n + 1) (i + m) = _; rw [h, show n + 1 + (c : Int) = n + ((c + 1 : Nat) : Int) by omega], .cons hm hc, hj, hn⟩
    · rw [if_neg hi]
      refine ⟨0, i, by simp, .nil _, h1, fun m hm => ?_⟩
      have := hm.pos
      omega
/-- The whole: so many signs lead from 0 to where they end. -/
theorem signs_ch (s : ByteArray) : ∃ c : Nat, ∃ j : Int, sgL s (s.size + 1) 0 0 = ((c : Int), j) ∧ Ch s c 0 j ∧ 0 ≤ j ∧ j ≤ s.size ∧ ∀ m, ¬ SgAt s j m := by
  obtain ⟨c, j, h, hc, hj, hn⟩ := sgL_ch s (s.size + 1) 0 0 (by omega) (by omega) (by omega)
  exact ⟨c, j, by rw [h]; simp, hc, by have := hc.le; omega, hj, hn⟩
/-- A text is valid. -/
def Vld (s : ByteArray) : Prop := ∃ c, Ch s c 0 s.size
theorem vld_iff {s : ByteArray} {c : Nat} {j : Int} (h : Ch s c 0 j) (hn : ∀ m, ¬ SgAt s j m) (hj : j ≤ s.size) : Vld s ↔ j = s.size := by
  constructor
  · rintro ⟨c', h'⟩
    rcases h.split h' with ⟨c2, _, h2⟩ | ⟨c2, m, hm, h2⟩
    · cases h2 with
      | nil => rfl
      | cons hm _ => exact absurd hm (hn _)
    · have := hm.pos
      omega
  · rintro rfl
    exact ⟨c, h⟩
theorem bt_take {s : ByteArray} {n : Nat} (hn : n ≤ s.size) {d : Int} (h0 : 0 ≤ d) (h1 : d < n) : bt (s.extract 0 n) d = bt s d := by
  unfold bt
  rw [dif_pos (by rw [ByteArray.size_extract]; omega), dif_pos (by omega)]
  simp [ByteArray.getElem_extract]
theorem bt_drop {s : ByteArray} {a n : Nat} (hn : n ≤ s.size) {d : Int} (h0 : 0 ≤ d) (h1 : a + d < n) : bt (s.extract a n) d = bt s (a + d) := by
  unfold bt
  rw [dif_pos (by rw [ByteArray.size_extract]; omega), dif_pos (by omega)]
  have e : a + d.toNat = ((a : Int) + d).toNat := by omega
  simp only [ByteArray.getElem_extract, e]
theorem size_take {s : ByteArray} {n : Nat} (hn : n ≤ s.size) : (s.extract 0 n).size = n := by rw [ByteArray.size_extract]; omega
/-- Signs of a begin are signs of the whole. -/
theorem Ch.of_take {s : ByteArray} {n c : Nat} {i j : Int} (hn : n ≤ s.size) (h0 : 0 ≤ i) (hi : i ≤ n) (h : Ch (s.extract 0 n) c i j) : Ch s c i j := by
  have hj := h.size (by rw [size_take hn]; exact hi)
  rw [size_take hn] at hj
  have := h.shift (t := s) (o := 0) (fun d hd0 hd1 => by rw [Int.zero_add]; exact bt_take hn (by omega) (by omega)) (by omega)
  simpa using this
theorem Ch.to_take {s : ByteArray} {n c : Nat} {i j : Int} (hn : n ≤ s.size) (h0 : 0 ≤ i) (hj : j ≤ n) (h : Ch s c i j) : Ch (s.extract 0 n) c i j := by
  have := h.shift (t := s.extract 0 n) (o := 0) (fun d hd0 hd1 => by rw [Int.zero_add]; exact (bt_take hn (by omega) (by omega)).symm) (by rw [size_take hn]; omega)
  simpa using this
theorem vld_take {s : ByteArray} {n : Nat} (hn : n ≤ s.size) : Vld (s.extract 0 n) ↔ ∃ c, Ch s c 0 n := by
  unfold Vld
  rw [size_take hn]
  exact ⟨fun ⟨c, h⟩ => ⟨c, h.of_take hn (by omega) (by omega)⟩, fun ⟨c, h⟩ => ⟨c, h.to_take hn (by omega) (by omega)⟩⟩
end Go.Proofs.Ytbgjoiccehiglaa.LibA
