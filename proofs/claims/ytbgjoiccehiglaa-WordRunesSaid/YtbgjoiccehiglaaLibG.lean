/- A number that is put is read as it was, and what is read is what is put; texts by their bytes. -/
import Derived.Test.YtbgjoiccehiglaaLibE
import Derived.Test.YtbgjoiccehiglaaLibF
namespace Go.Proofs.Ytbgjoiccehiglaa.LibG
open Go.RowKit Go.Proofs.Ytbgjoiccehiglaa.Print Go.Proofs.YtbgjoiccehiglaaW.PrintWords Go.Proofs.YtbgjoiccehiglaaW.PrintLast Go.Proofs.YtbgjoiccehiglaaW.PrintMore Go.Proofs.Ytbgjoiccehiglaa.LibA Go.Proofs.Ytbgjoiccehiglaa.LibB Go.Proofs.Ytbgjoiccehiglaa.LibC Go.Proofs.Ytbgjoiccehiglaa.LibD Go.Proofs.Ytbgjoiccehiglaa.LibE Go.Proofs.Ytbgjoiccehiglaa.LibF

theorem ba_ext {a b : ByteArray} (hs : a.size = b.size) (h : ∀ i : Int, 0 ≤ i → i < a.size → bt a i = bt b i) : a = b := by
  apply ByteArray.ext
  apply Array.ext hs
  intro i h1 h2
  have := h i (by omega) (by have : i < a.size := h1; omega)
  unfold bt at this
  rw [dif_pos (by have : i < a.size := h1; omega), dif_pos (by have : i < b.size := h2; omega)] at this
  have e : (a[((i : Nat) : Int).toNat]'(by have : i < a.size := h1; omega)) = (b[((i : Nat) : Int).toNat]'(by have : i < b.size := h2; omega)) := UInt8.toNat_inj.mp (by omega)
  simpa [ByteArray.getElem_eq_getElem_data] using e
theorem bt_nums {xs : List Int} (hx : ∀ x ∈ xs, 0 ≤ x ∧ x < 256) {i : Nat} (hi : i < xs.length) : bt (strOfNums xs) i = xs[i] := by
  unfold bt
  rw [dif_pos (by rw [strOfNums_size]; omega)]
  have := hx xs[i] (List.getElem_mem hi)
  simp only [strOfNums, ByteArray.getElem_eq_getElem_data, Int.toNat_natCast, List.getElem_toArray, List.getElem_map]
  rw [UInt8.toNat_ofNat']
  omega
theorem putL_bytes : ∀ (d : Nat) (x : Int), 0 ≤ x → x < 128 ^ (d + 1) → ∀ y ∈ putL d x, 0 ≤ y ∧ y < 256
  | 0, x, h0, h1, y, hy => by
    simp [putL] at hy
    subst hy
    omega
  | d + 1, x, h0, h1, y, hy => by
    unfold putL at hy
    split at hy
    · rcases List.mem_cons.mp hy with rfl | hy
      · omega
      · refine putL_bytes d (x / 128) (by omega) ?_ y hy
        rw [Int.pow_succ] at h1
        exact Int.ediv_lt_of_lt_mul (by omega) h1
    · simp at hy
      subst hy
      omega
theorem pow_le {a b : Nat} (h : a ≤ b) : (128 : Int) ^ a ≤ 128 ^ b := by
  induction h with
  | refl => exact Int.le_refl _
  | @step m _ ih => rw [Int.pow_succ]; have : (0 : Int) < 128 ^ a := Int.pow_pos (by decide); omega
theorem pow_pos (n : Nat) : (0 : Int) < 128 ^ n := Int.pow_pos (by decide)
/-- A number's bytes, from i on, are read as it. -/
theorem num_put (s : ByteArray) : ∀ (d k : Nat) (i acc x : Int), 0 ≤ x → x < 128 ^ (d + 1) → 0 ≤ i → (i = 0 ∨ 0 < x) → x * 128 ^ i.toNat < 18446744073709551616 → d + 1 ≤ k → i + (putL d x).length ≤ s.size →
    (∀ j (hj : j < (putL d x).length), bt s (i + j) = (putL d x)[j]) → numL s k i acc = (0, acc + x * 128 ^ i.toNat, i + (putL d x).length)
  | d, 0, _, _, _, _, _, _, _, _, hk, _, _ => by omega
  | d, k + 1, i, acc, x, h0, h1, hi0, hx, h64, hk, hs, hb => by
    have hl := putL_length d x
    have hb0 := hb 0 (by omega)
    simp only [Int.add_zero, Int.natCast_zero] at hb0
    have h9 : i < 10 → (i < 9 ∨ x ≤ 1) := fun h => by
      by_cases h9 : i < 9
      · exact .inl h9
      · right
        have : i.toNat = 9 := by omega
        rw [this] at h64
        omega
    have h10 : ¬ i < 10 → x = 0 := fun h => by
      have h2 : (128 : Int) ^ 10 ≤ 128 ^ i.toNat := pow_le (by omega)
      by_cases hx0 : x = 0
      · exact hx0
      · have : 1 * 128 ^ i.toNat ≤ x * 128 ^ i.toNat := Int.mul_le_mul_of_nonneg_right (by omega) (by omega)
        omega
    simp only [numL]
    rw [if_pos (by omega)]
    by_cases hbig : x ≥ 128
    · have h8 : i < 9 := by
        by_cases h : i < 10
        · have := h9 h; omega
        · have := h10 h; omega
      cases d with
      | zero => simp at h1; omega
      | succ d =>
        have hp : putL (d + 1) x = (x % 128 + 128) :: putL d (x / 128) := by show (if x ≥ 128 then _ else _) = _; rw [if_pos hbig]
        have hc : bt s i = x % 128 + 128 := by rw [hb0]; simp only [hp, List.getElem_cons_zero]
        rw [hc, if_pos ⟨.inl h8, .inr (by omega)⟩, if_neg (by omega)]
        have e1 : (x % 128 + 128) % 128 = x % 128 := by omega
        have e2 : (128 : Int) ^ (i + 1).toNat = 128 ^ i.toNat * 128 := by rw [show (i + 1).toNat = i.toNat + 1 by omega, Int.pow_succ]
        have e3 : x * 128 ^ i.toNat = x % 128 * 128 ^ i.toNat + x / 128 * (128 ^ i.toNat * 128) := by
          have h := Int.emod_add_mul_ediv x 128
          conv => lhs; rw [← h]
          rw [Int.add_mul, Int.mul_comm 128 (x / 128), Int.mul_assoc, Int.mul_comm 128 (128 ^ i.toNat)]
        have hm : 0 ≤ x % 128 * 128 ^ i.toNat := Int.mul_nonneg (by omega) (by have := pow_pos i.toNat; omega)
        have := num_put s d k (i + 1) (acc + (x % 128 + 128) % 128 * 128 ^ i.toNat) (x / 128) (by omega) (by rw [Int.pow_succ] at h1; exact Int.ediv_lt_of_lt_mul (by omega) h1) (by omega) (.inr (by omega)) (by rw [e2]; omega) (by omega) (by rw [hp, List.length_cons] at hs; omega)
          (fun j hj => by
            have := hb (j + 1) (by rw [hp, List.length_cons]; omega)
            simp only [hp, List.getElem_cons_succ] at this
            rw [← this]
            congr 1
            omega)
        rw [this, hp, List.length_cons, e1, e2, e3]
        simp only [Prod.mk.injEq, true_and]
        constructor <;> omega
    · have hp : putL d x = [x] := by
        cases d with
        | zero => rfl
        | succ d => show (if x ≥ 128 then _ else _) = _; rw [if_neg hbig]
      have hc : bt s i = x := by rw [hb0]; simp only [hp, List.getElem_cons_zero]
      have hcond : i < 9 ∨ x ≤ 1 := by
        by_cases h : i < 10
        · exact h9 h
        · right; rw [h10 h]; decide
      rw [hc, if_pos ⟨hcond, by omega⟩, if_pos (by omega), hp, show x % 128 = x by omega]
      rfl
/-- What is read as a number is what the number is put as. -/
theorem num_canon (s : ByteArray) : ∀ (k : Nat) (i acc : Int), 0 ≤ i → i + (k + 1 : Nat) = 10 → (numL s (k + 1) i acc).1 = 0 →
    ∃ x : Int, 0 ≤ x ∧ x < 128 ^ (k + 1) ∧ (i = 0 ∨ 0 < x) ∧ (numL s (k + 1) i acc).2.1 = acc + x * 128 ^ i.toNat ∧ (numL s (k + 1) i acc).2.2 = i + (putL k x).length ∧ i + (putL k x).length ≤ s.size ∧ ∀ j (hj : j < (putL k x).length), bt s (i + j) = (putL k x)[j]
  | k, i, acc, hi, hk, h => by
    simp only [numL] at h ⊢
    have hr := bt_range s i
    by_cases hlt : i < (s.size : Int)
    · rw [if_pos hlt] at h ⊢
      by_cases hok : (i < 9 ∨ bt s i ≤ 1) ∧ (i = 0 ∨ bt s i ≠ 0)
      · rw [if_pos hok] at h ⊢
        by_cases hb : bt s i < 128
        · rw [if_pos hb] at h ⊢
          have hp : putL k (bt s i) = [bt s i] := by
            cases k with
            | zero => rfl
            | succ d => show (if bt s i ≥ 128 then _ else _) = _; rw [if_neg (by omega)]
          refine ⟨bt s i, hr.1, ?_, by omega, by rw [show bt s i % 128 = bt s i by omega], by rw [hp]; rfl, by rw [hp]; simp; omega, fun j hj => ?_⟩
          · have : (128 : Int) ^ 1 ≤ 128 ^ (k + 1) := pow_le (by omega)
            omega
          · simp only [hp, List.length_singleton] at hj ⊢
            have : j = 0 := by omega
            subst this
            simp
        · rw [if_neg hb] at h ⊢
          cases k with
          | zero => omega
          | succ k =>
            obtain ⟨x, h1, h2, h3, h4, h5, h6, h7⟩ := num_canon s k (i + 1) _ (by omega) (by omega) h
            have hx : 0 < x := by omega
            have hp : putL (k + 1) (x * 128 + bt s i % 128) = bt s i :: putL k x := by
              show (if x * 128 + bt s i % 128 ≥ 128 then ((x * 128 + bt s i % 128) % 128 + 128) :: putL k ((x * 128 + bt s i % 128) / 128) else _) = _
              rw [if_pos (by omega), show (x * 128 + bt s i % 128) / 128 = x by omega, show (x * 128 + bt s i % 128) % 128 + 128 = bt s i by omega]
            refine ⟨x * 128 + bt s i % 128, by omega, by rw [Int.pow_succ]; omega, .inr (by omega), ?_, ?_, ?_, ?_⟩
            · rw [h4, show (i + 1).toNat = i.toNat + 1 by omega, Int.pow_succ, Int.add_mul, Int.mul_assoc, Int.mul_comm 128 (128 ^ i.toNat)]
              omega
            · rw [h5, hp, List.length_cons]; omega
            · rw [hp, List.length_cons]; omega
            · intro j hj
              cases j with
              | zero => simp only [hp, List.getElem_cons_zero]; simp
              | succ j =>
                rw [hp, List.length_cons] at hj
                simp only [hp, List.getElem_cons_succ]
                rw [← h7 j (by omega)]
                congr 1
                omega
      · rw [if_neg hok] at h
        cases h
    · rw [if_neg hlt] at h
      cases h
/-- A number put at a text's begin: read, it is as it was. -/
theorem put_read (x : Int) (h0 : 0 ≤ x) (h1 : x < 18446744073709551616) (t : ByteArray) : numL (strOfNums (putL 9 x) ++ t) 10 0 0 = ((0, x, ((putL 9 x).length : Int)) : Int × Int × Int) := by
  have hx : x < 128 ^ (9 + 1) := by omega
  have hs : (strOfNums (putL 9 x)).size = (putL 9 x).length := strOfNums_size _
  have := num_put (strOfNums (putL 9 x) ++ t) 9 10 0 0 x h0 hx (by omega) (.inl rfl) (by simpa using h1) (by omega) (by rw [ByteArray.size_append, hs]; omega) (fun j hj => by
    rw [Int.zero_add, bt_app_left (by omega) (by rw [hs]; omega)]
    exact bt_nums (putL_bytes 9 x h0 hx) hj)
  rw [this]
  simp
/-- What was read as a number stands there as it is put. -/
theorem read_put (s : ByteArray) (h : (numL s 10 0 0).1 = 0) : s.extract 0 (numL s 10 0 0).2.2.toNat = strOfNums (putL 9 (numL s 10 0 0).2.1) := by
  obtain ⟨x, h1, h2, _, h4, h5, h6, h7⟩ := num_canon s 9 0 0 (by omega) (by omega) h
  have e4 : (numL s 10 0 0).2.1 = x := by simpa using h4
  have e5 : (numL s 10 0 0).2.2 = (putL 9 x).length := by simpa using h5
  have h6' : (putL 9 x).length ≤ s.size := by omega
  rw [e4, e5, Int.toNat_natCast]
  refine ba_ext (by rw [size_take h6', strOfNums_size]) (fun i h0 hi => ?_)
  rw [size_take h6'] at hi
  obtain ⟨j, rfl⟩ := Int.eq_ofNat_of_zero_le h0
  rw [bt_take h6' h0 hi, bt_nums (putL_bytes 9 x h1 h2) (by omega)]
  have := h7 j (by omega)
  rwa [Int.zero_add] at this
theorem app_cut (a b : ByteArray) : (a ++ b).extract a.size (a ++ b).size = b := by
  refine ba_ext (by rw [ByteArray.size_extract, ByteArray.size_append]; omega) (fun i h0 hi => ?_)
  rw [ByteArray.size_extract, ByteArray.size_append] at hi
  rw [bt_drop (Nat.le_refl _) h0 (by rw [ByteArray.size_append]; omega), bt_app_right h0 (by omega)]
theorem app_take (a b : ByteArray) : (a ++ b).extract 0 a.size = a := by
  have hs : a.size ≤ (a ++ b).size := by rw [ByteArray.size_append]; omega
  refine ba_ext (size_take hs) (fun i h0 hi => ?_)
  rw [size_take hs] at hi
  rw [bt_take hs h0 (by omega), bt_app_left h0 (by omega)]
theorem take_drop (s : ByteArray) (n : Nat) (hn : n ≤ s.size) : s.extract 0 n ++ s.extract n s.size = s := by
  refine ba_ext (by rw [ByteArray.size_append, size_take hn, ByteArray.size_extract]; omega) (fun i h0 hi => ?_)
  rw [ByteArray.size_append, size_take hn, ByteArray.size_extract] at hi
  by_cases h : i < n
  · rw [bt_app_left h0 (by rw [size_take hn]; exact h), bt_take hn h0 h]
  · obtain ⟨j, rfl⟩ : ∃ j, i = ((s.extract 0 n).size : Int) + j := ⟨i - n, by rw [size_take hn]; omega⟩
    rw [size_take hn] at h hi
    rw [bt_app_right (by omega) (by rw [ByteArray.size_extract]; omega), bt_drop (Nat.le_refl _) (by omega) (by omega), size_take hn]
/-- A text that is put, and what stands behind it: taken, it is as it was, if it is valid; else it is wrong. -/
theorem take_put (t u : ByteArray) (a : ByteArray) (most : Int) (hm0 : 0 ≤ most) (hm1 : most ≤ 9223372036854775807) (ht : (t.size : Int) ≤ most) (hs : (a ++ ((strOfNums (putL 9 t.size) ++ t) ++ u)).size ≤ 140737488351232) (k : Nat) (hk : (a ++ ((strOfNums (putL 9 t.size) ++ t) ++ u)).size + 60 ≤ k) :
    word_Take.f k (a ++ ((strOfNums (putL 9 t.size) ++ t) ++ u)) a.size most = some (if Vld t then (t, ((a.size + (strOfNums (putL 9 t.size) ++ t).size : Nat) : Int), 0) else (noText, 0, 4)) := by
  obtain ⟨k, rfl⟩ : ∃ m, k = m + 2 := ⟨k - 2, by omega⟩
  have hz : (a ++ ((strOfNums (putL 9 t.size) ++ t) ++ u)).size = a.size + ((putL 9 t.size).length + t.size + u.size) := by simp only [ByteArray.size_append, strOfNums_size]
  have hl := putL_length 9 (t.size : Int)
  have hrest : (a ++ ((strOfNums (putL 9 t.size) ++ t) ++ u)).extract (a.size : Int).toNat (a ++ ((strOfNums (putL 9 t.size) ++ t) ++ u)).size = strOfNums (putL 9 t.size) ++ (t ++ u) := by
    rw [Int.toNat_natCast, app_cut, ByteArray.append_assoc]
  have hnum := put_read (t.size : Int) (by omega) (by omega) (t ++ u)
  have hnb : (strOfNums (putL 9 t.size) ++ (t ++ u)).size = (putL 9 t.size).length + (t.size + u.size) := by simp only [ByteArray.size_append, strOfNums_size]
  unfold word_Take.f
  rw [if_neg (by omega), decide_eq_false (by omega)]
  simp only [word_Take.j0, Bool.false_eq_true, if_false, pack_New.f, Option.bind_some]
  rw [if_pos (by omega), if_pos (by omega), hrest]
  have hN : pack_Reader_Num.f (strOfNums (putL 9 t.size) ++ (t ++ u)) 0 = some ((t.size : Int), t ++ u, 0) := by
    unfold pack_Reader_Num.f
    rw [if_pos (by omega), if_pos rfl, hnum, if_pos rfl]
    congr 3
    rw [Int.toNat_natCast]
    have := app_cut (strOfNums (putL 9 t.size)) (t ++ u)
    rwa [strOfNums_size] at this
  rw [hN]
  simp only [Option.bind_some, pack_Reader_Err.f, if_true]
  rw [if_neg (show ¬ most < 0 by omega), decide_eq_false (show ¬ (t.size : Int) > IntKind.u64.wrap most by rw [pack_wraps_u64 most (by omega) (by omega)]; omega)]
  simp only [word_Take.j1, Bool.false_eq_true, if_false, pack_Reader_Left.f, Option.bind_some]
  have htu : (t ++ u).size = t.size + u.size := ByteArray.size_append
  rw [pack_wraps_u64 _ (by omega) (by omega), if_neg (by omega), w64 (n := (t.size : Int)) (by omega) (by omega)]
  have hT : pack_Reader_Take.f (t ++ u) 0 (t.size : Int) = some (t, u, 0) := by
    unfold pack_Reader_Take.f
    rw [if_pos rfl, if_pos ⟨by omega, by omega⟩, Int.toNat_natCast, app_take, app_cut]
  rw [hT]
  simp only [Option.bind_some]
  rw [wordValid t (by omega)]
  simp only [Option.bind_some, decide_eq_true_eq]
  split
  · rw [w64 (by omega) (by omega)]
    congr 3
    simp only [ByteArray.size_append, strOfNums_size]
    omega
  · rfl
end Go.Proofs.Ytbgjoiccehiglaa.LibG
