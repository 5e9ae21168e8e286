/- Of any at most 20 texts of at most 200 bytes, and any bytes, at most 300: the texts that are put, one behind the other, are taken as they were, if they are valid, and else are wrong; what is taken of the bytes is what is put so. -/
import Derived.Test.YtbgjoiccehiglaaLibG
import Derived.Test.YtbgjoiccehiglaaPrint11
namespace Go.Proofs.Ytbgjoiccehiglaa.Pure
open Go.RowKit Go.Proofs.Ytbgjoiccehiglaa.Print Go.Proofs.YtbgjoiccehiglaaW.PrintWords Go.Proofs.YtbgjoiccehiglaaW.PrintLast Go.Proofs.YtbgjoiccehiglaaW.PrintMore Go.Proofs.Ytbgjoiccehiglaa.LibA Go.Proofs.Ytbgjoiccehiglaa.LibB Go.Proofs.Ytbgjoiccehiglaa.LibC Go.Proofs.Ytbgjoiccehiglaa.LibE Go.Proofs.Ytbgjoiccehiglaa.LibF Go.Proofs.Ytbgjoiccehiglaa.LibG

theorem back_live {k : Nat} (hk : 40 ≤ k) : bonsailaw04_live.f k = some true := at_rounds (g := bonsailaw04_live.f) (fun k => bonsailaw04_live.mono k) hk live04
theorem rd_of {l : List ByteArray} {i : Nat} (h : i < l.length) : rdOf ByteArray.empty l (i : Int) = l[i] := by
  simp [rdOf, List.getD_eq_getElem?_getD, h]
/-- Few texts, each of few bytes: told as it is. -/
theorem few_l (l : List ByteArray) (most : Int) : ∀ (d i k : Nat), i + d = l.length → l.length ≤ 9223372036854775000 → d < k → bonsairef04_Few.l0 k l most (i : Int) = some (decide (∀ x ∈ l.drop i, (x.size : Int) ≤ most))
  | d, i, 0, _, _, hk => by omega
  | d, i, k + 1, hi, hl, hk => by
    simp only [bonsairef04_Few.l0]
    cases d with
    | zero =>
      rw [if_neg (by omega), List.drop_eq_nil_of_le (by omega)]
      simp
    | succ d =>
      have hlt : i < l.length := by omega
      rw [if_pos (by omega), if_pos (by omega), rd_of hlt, List.drop_eq_getElem_cons hlt]
      by_cases h : (l[i].size : Int) > most
      · rw [if_pos h]
        congr 1
        symm
        rw [decide_eq_false_iff_not]
        intro hall
        have := hall l[i] List.mem_cons_self
        omega
      · rw [if_neg h, w64 (by omega) (by omega), show (i : Int) + 1 = ((i + 1 : Nat) : Int) by omega, few_l l most d (i + 1) k (by omega) hl (by omega)]
        congr 1
        rw [decide_eq_decide, List.forall_mem_cons]
        exact ⟨fun h' => ⟨by omega, h'⟩, fun h' => h'.2⟩
theorem few_some (l : List ByteArray) (n most : Int) (hl : n ≤ 9223372036854775000) (k : Nat) (hk : n.toNat + 1 ≤ k) (hn : 0 ≤ n) : bonsairef04_Few.f k l n most = some (decide ((l.length : Int) ≤ n ∧ ∀ x ∈ l, (x.size : Int) ≤ most)) := by
  unfold bonsairef04_Few.f
  by_cases h : (l.length : Int) > n
  · rw [if_pos h]
    congr 1
    symm
    simp
    omega
  · rw [if_neg h]
    have := few_l l most l.length 0 k (by omega) (by omega) (by omega)
    simp only [Int.natCast_zero, List.drop_zero] at this
    rw [this]
    congr 1
    simp
    omega
/-- A text as it is put. -/
noncomputable def putT (t : ByteArray) : ByteArray := strOfNums (putL 9 t.size) ++ t
noncomputable def putAll : List ByteArray → ByteArray
  | [] => noText
  | t :: l => putT t ++ putAll l
theorem putT_size (t : ByteArray) : (putT t).size ≤ t.size + 10 ∧ 1 ≤ (putT t).size := by
  have := putL_length 9 (t.size : Int)
  unfold putT
  rw [ByteArray.size_append, strOfNums_size]
  omega
theorem putAll_size : ∀ (l : List ByteArray), (∀ x ∈ l, (x.size : Int) ≤ 200) → (putAll l).size ≤ 210 * l.length
  | [], _ => Nat.zero_le _
  | t :: l, h => by
    have h1 := putT_size t
    have h2 := h t (List.mem_cons_self)
    have h3 := putAll_size l (fun x hx => h x (List.mem_cons_of_mem _ hx))
    simp only [putAll, ByteArray.size_append, List.length_cons]
    omega
theorem no_app (a : ByteArray) : noText ++ a = a := by
  have h0 : noText.size = 0 := rfl
  have hz : (noText ++ a).size = a.size := by rw [ByteArray.size_append]; omega
  refine ba_ext hz (fun i hi0 hi => ?_)
  have := bt_app_right (s := noText) (t := a) (d := i) hi0 (by omega)
  rwa [show ((noText.size : Nat) : Int) + i = i by omega] at this
theorem app_no (a : ByteArray) : a ++ noText = a := by
  have h0 : noText.size = 0 := rfl
  have hz : (a ++ noText).size = a.size := by rw [ByteArray.size_append]; omega
  exact ba_ext hz (fun i hi0 hi => bt_app_left hi0 (by omega))
theorem putAll_app : ∀ (l m : List ByteArray), putAll (l ++ m) = putAll l ++ putAll m
  | [], m => (no_app _).symm
  | t :: l, m => by simp only [List.cons_append, putAll, putAll_app l m, ByteArray.append_assoc]
/-- The bytes that are read by themselves: what was taken of them is what is put. -/
theorem back_end (s : ByteArray) (hs : s.size ≤ 300) (k : Nat) (hk : 1000 ≤ k) (all : ByteArray) (l : List ByteArray) (i : Int) (hi : ¬ i < (l.length : Int)) : bonsailaw04_WordBack.l1 (k + 1) l s all all.size i = some true := by
  obtain ⟨t, b, e, htk, he1, he2⟩ := take_both s (by omega) 0 300 (by omega) (by omega)
  obtain ⟨h1, _⟩ := htk k (by omega)
  simp only [bonsailaw04_WordBack.l1]
  rw [if_neg hi, h1]
  simp only [Option.bind_some]
  by_cases he : e = 0
  · subst he
    obtain ⟨_, v, n, hV, hn0, hn1, hts, hab, hbs, ht, hnum, hv⟩ := he2 rfl
    have hsz : s.extract (0 : Int).toNat s.size = s := take_all s
    rw [hsz] at hnum
    have hread : (numL s 10 0 0).1 = 0 ∧ (numL s 10 0 0).2.1 = n ∧ s.extract (numL s 10 0 0).2.2.toNat s.size = s.extract v.toNat s.size := by
      unfold pack_Reader_Num.f at hnum
      rw [if_pos (by omega), if_pos rfl] at hnum
      split at hnum
      · simp only [Option.some.injEq, Prod.mk.injEq] at hnum
        exact ⟨‹_›, hnum.1, hnum.2.1⟩
      · simp only [Option.some.injEq, Prod.mk.injEq] at hnum
        omega
    obtain ⟨r1, r2, r3⟩ := hread
    have hput := read_put s r1
    obtain ⟨hn1', hn2'⟩ := Go.Proofs.Ytbgjoiccehiglaa.LibD.numL_is s 10 0 0 (by omega) (by omega) (by omega) (by omega) (by decide)
    have hr := hn1' r1
    have hvv : (numL s 10 0 0).2.2 = v := by
      have := congrArg ByteArray.size r3
      rw [ByteArray.size_extract, ByteArray.size_extract] at this
      omega
    rw [hvv, r2] at hput
    have hwp := (wordPut t (by omega) k (by omega)).1
    have hwhole : strOfNums (putL 9 (t.size : Int)) ++ t = s.extract 0 b.toNat := by
      rw [hts, ← hput, ht, hv]
      have e1 : (s.extract 0 b.toNat).extract 0 (b - n).toNat = s.extract 0 (b - n).toNat := take_take (by omega)
      have e2 : (s.extract 0 b.toNat).extract (b - n).toNat (s.extract 0 b.toNat).size = s.extract (b - n).toNat b.toNat := by
        rw [ByteArray.extract_extract, size_take (by omega)]
        congr 1
        · omega
        · omega
      have := take_drop (s.extract 0 b.toNat) (b - n).toNat (by rw [size_take (by omega)]; omega)
      rwa [e1, e2] at this
    simp only [if_true]
    rw [if_pos (by omega), if_pos (by omega), hwp]
    simp only [Option.bind_some]
    rw [if_pos (by omega), if_pos (by rw [hwhole]), wordValid t (by omega)]
    simp only [Option.bind_some, hV, decide_true, if_true, back_live (show 40 ≤ k by omega)]
  · obtain ⟨rfl, rfl⟩ := he1 he
    have hnt : noText.toList = ([] : List UInt8) := by decide +kernel
    rw [if_neg he, if_pos rfl, if_pos hnt]
    simp only [if_true, back_live (show 40 ≤ k by omega), Option.bind_some]
theorem back_l1 (s : ByteArray) (hs : s.size ≤ 300) : ∀ (m l : List ByteArray) (k : Nat), (l ++ m).length ≤ 20 → (∀ x ∈ l ++ m, (x.size : Int) ≤ 200) → (∀ x ∈ m, Vld x) → 6000 + m.length ≤ k →
    bonsailaw04_WordBack.l1 (k + 1) (l ++ m) s (putAll (l ++ m)) (putAll l).size (l.length : Int) = some true
  | [], l, k, h1, h2, h3, hk => by
    rw [List.append_nil]
    exact back_end s hs k (by omega) _ l _ (by omega)
  | t :: m, l, k, h1, h2, h3, hk => by
    have hsz := putAll_size (l ++ t :: m) h2
    have hat : putAll (l ++ t :: m) = putAll l ++ ((strOfNums (putL 9 t.size) ++ t) ++ putAll m) := by rw [putAll_app]; rfl
    have htm := h2 t (by simp)
    have hll : (l ++ t :: m).length = l.length + (m.length + 1) := by simp
    have htk := take_put t (putAll m) (putAll l) 200 (by omega) (by omega) htm (by rw [← hat]; omega) k (by rw [← hat]; simp only [List.length_cons] at hk; omega)
    have hrd : rdOf ByteArray.empty (l ++ t :: m) (l.length : Int) = t := by rw [rd_of (by omega)]; simp
    simp only [bonsailaw04_WordBack.l1]
    rw [if_pos (by omega)]
    conv => lhs; rw [hat]
    rw [htk, if_pos (h3 t (List.mem_cons_self))]
    simp only [Option.bind_some, if_true]
    have hp := putT_size t
    have hpt : (strOfNums (putL 9 t.size) ++ t).size = (putT t).size := rfl
    rw [if_pos (by omega), hrd, if_pos rfl, if_neg (by omega), w64 (by omega) (by omega)]
    obtain ⟨k, rfl⟩ : ∃ q, k = q + 1 := ⟨k - 1, by omega⟩
    have := back_l1 s hs m (l ++ [t]) k (by simp at h1 ⊢; omega) (fun x hx => h2 x (by simpa using hx)) (fun x hx => h3 x (List.mem_cons_of_mem _ hx)) (by simp only [List.length_cons] at hk; omega)
    rw [List.append_assoc, List.singleton_append, putAll_app l [t], hat] at this
    simp only [putAll, app_no, ByteArray.size_append, List.length_append, List.length_singleton] at this
    simp only [ByteArray.size_append] at hpt ⊢
    rw [show ((l.length : Nat) : Int) + 1 = ((l.length + 1 : Nat) : Int) by omega]
    rw [← hpt] at this
    exact this
theorem back_l0 (s : ByteArray) (hs : s.size ≤ 300) : ∀ (m l : List ByteArray) (k : Nat), (l ++ m).length ≤ 20 → (∀ x ∈ l ++ m, (x.size : Int) ≤ 200) → (∀ x ∈ l, Vld x) → 7000 + m.length ≤ k →
    bonsailaw04_WordBack.l0 (k + 1) (l ++ m) s (putAll l) (l.length : Int) = some true
  | [], l, k, h1, h2, h3, hk => by
    rw [List.append_nil] at *
    obtain ⟨k, rfl⟩ : ∃ q, k = q + 1 := ⟨k - 1, by omega⟩
    simp only [bonsailaw04_WordBack.l0]
    rw [if_neg (by omega)]
    have := back_l1 s hs l [] k (by simpa using h1) (by simpa using h2) h3 (by omega)
    simp only [List.nil_append, putAll, List.length_nil] at this
    exact this
  | t :: m, l, k, h1, h2, h3, hk => by
    have hll : (l ++ t :: m).length = l.length + (m.length + 1) := by simp
    have htm := h2 t (by simp)
    have hrd : rdOf ByteArray.empty (l ++ t :: m) (l.length : Int) = t := by rw [rd_of (by omega)]; simp
    have hwp := (wordPut t (by omega) k (by omega)).1
    have hsz := putAll_size l (fun x hx => h2 x (by simp [hx]))
    have hp := putT_size t
    have hpt : (strOfNums (putL 9 t.size) ++ t).size = (putT t).size := rfl
    simp only [bonsailaw04_WordBack.l0]
    rw [if_pos (by omega), if_pos (by omega), hrd, wordValid t (by omega)]
    simp only [Option.bind_some, decide_eq_true_eq]
    by_cases hV : Vld t
    · rw [if_pos hV, hwp]
      simp only [Option.bind_some]
      rw [if_pos (by omega), w64 (by omega) (by omega)]
      obtain ⟨k, rfl⟩ : ∃ q, k = q + 1 := ⟨k - 1, by omega⟩
      have := back_l0 s hs m (l ++ [t]) k (by simp at h1 ⊢; omega) (fun x hx => h2 x (by simpa using hx)) (fun x hx => by
        rcases List.mem_append.mp hx with h | h
        · exact h3 x h
        · simp at h; subst h; exact hV) (by simp only [List.length_cons] at hk; omega)
      rw [List.append_assoc, List.singleton_append, putAll_app l [t]] at this
      simp only [putAll, app_no, List.length_append, List.length_singleton] at this
      rw [show ((l.length : Nat) : Int) + 1 = ((l.length + 1 : Nat) : Int) by omega]
      exact this
    · rw [if_neg hV, hwp]
      simp only [Option.bind_some]
      have hsm : (noText ++ ((strOfNums (putL 9 t.size) ++ t) ++ noText)).size = (putT t).size := by rw [no_app, app_no]; exact hpt
      have htk := take_put t noText noText 200 (by omega) (by omega) htm (by omega) k (by omega)
      rw [no_app, app_no, if_neg hV] at htk
      have h0 : ((noText.size : Nat) : Int) = 0 := rfl
      rw [h0] at htk
      rw [htk]
      simp only [Option.bind_some, if_true, back_live (show 40 ≤ k by omega)]
theorem WordBack (l : List ByteArray) (s : ByteArray)  : bonsailaw04_WordBack.f 9002 l s = some true := by
  unfold bonsailaw04_WordBack.f
  rw [few_some l 20 200 (by omega) 9002 (by omega) (by omega)]
  simp only [Option.bind_some, decide_eq_true_eq]
  have hj : bonsailaw04_WordBack.j0 (9001 + 1) l s true = some true := by
    simp only [bonsailaw04_WordBack.j0, if_true, back_live (show 40 ≤ 9001 by omega), Option.bind_some]
  by_cases hf : (l.length : Int) ≤ 20 ∧ ∀ x ∈ l, (x.size : Int) ≤ 200
  · rw [if_pos hf]
    by_cases hs : (s.size : Int) > 300
    · rw [decide_eq_true hs]
      exact hj
    · rw [decide_eq_false hs, show (9002 : Nat) = 9001 + 1 from rfl]
      simp only [bonsailaw04_WordBack.j0, Bool.false_eq_true, if_false]
      exact back_l0 s (by omega) l [] 9000 (by simp; omega) (by simpa using hf.2) (by simp) (by omega)
  · rw [if_neg hf]
    exact hj

end Go.Proofs.Ytbgjoiccehiglaa.Pure
