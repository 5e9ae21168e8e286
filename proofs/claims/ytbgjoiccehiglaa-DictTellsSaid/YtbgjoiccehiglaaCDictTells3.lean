/- Part 3 of what DictTells stands on: merged by a program of this session out of its texts. -/
import Derived.Test.YtbgjoiccehiglaaCDictTells2
section
namespace Go.Proofs.Ytbgjoiccehiglaa.LibW
open Go.RowKit Go.Proofs.Ytbgjoiccehiglaa.Print Go.Proofs.YtbgjoiccehiglaaW.PrintWords Go.Proofs.YtbgjoiccehiglaaW.PrintLast Go.Proofs.YtbgjoiccehiglaaW.PrintMore Go.Proofs.Ytbgjoiccehiglaa.LibU Go.Proofs.Ytbgjoiccehiglaa.LibV Go.Proofs.Ytbgjoiccehiglaa.LibC Go.Proofs.Ytbgjoiccehiglaa.LibE Go.Proofs.Ytbgjoiccehiglaa.LibG
theorem rd_at (l : List Int) (i : Nat) (h : i < l.length) : rd l (i : Int) = l[i] := by simp [rd, List.getD_eq_getElem?_getD, h]
theorem rd53_at (l : List S53) (i : Nat) (h : i < l.length) : rd_T53 l (i : Int) = l[i] := by simp [rd_T53, List.getD_eq_getElem?_getD, h]
theorem len_runs (l : List Int) : (runs l).length ≤ l.length := by
  have := len_spread (may_runs l)
  rwa [spread_runs] at this
theorem take_snoc (l : List Int) (i : Nat) (h : i < l.length) : l.take (i + 1) = l.take i ++ [l[i]] := by rw [List.take_succ_eq_append_getElem h]
theorem last_runs {l : List Int} {x : Int} {a : List S53} {r : S53} (h : runs (l ++ [x]) = a ++ [r]) : r.f0 = x := by
  have hm := may_runs (l ++ [x])
  have hs := spread_runs (l ++ [x])
  rw [h] at hm hs
  have h1 := hm.last
  rw [spread_snoc, show r.f1.toNat = (r.f1.toNat - 1) + 1 by omega, List.replicate_succ', ← List.append_assoc] at hs
  exact (snoc_inj hs).2
theorem refRuns_l (l : List Int) (hl : (l.length : Int) ≤ 1000000000000) : ∀ (d k i : Nat), i + d = l.length → d + 1 ≤ k → bonsairef06_Runs.l0 k l (runs (l.take i)) (i : Int) = some (runs l)
  | 0, k, i, hd, hk => by
    obtain ⟨k, rfl⟩ : ∃ k', k = k' + 1 := ⟨k - 1, by omega⟩
    unfold bonsairef06_Runs.l0
    rw [if_neg (by omega), List.take_of_length_le (by omega)]
  | d + 1, k, i, hd, hk => by
    obtain ⟨k, rfl⟩ : ∃ k', k = k' + 1 := ⟨k - 1, by omega⟩
    have hi : i < l.length := by omega
    have ih := refRuns_l l hl d k (i + 1) (by omega) (by omega)
    rw [take_snoc l i hi, runs_snoc] at ih
    have hlen := len_runs (l.take i)
    rw [List.length_take] at hlen
    unfold bonsairef06_Runs.l0
    rw [if_pos (by omega), w64 (n := (i : Int) + 1) (by omega) (by omega)]
    by_cases h0 : (i : Int) > 0
    · rw [if_pos h0, w64 (n := (i : Int) - 1) (by omega) (by omega), if_pos (by omega), if_pos (by omega), if_pos (by omega)]
      rw [show (i : Int) - 1 = ((i - 1 : Nat) : Int) by omega, rd_at l (i - 1) (by omega), rd_at l i hi]
      rcases snoc_cases (runs (l.take i)) with he | ⟨a, r, he⟩
      · exfalso
        have := spread_runs (l.take i)
        rw [he] at this
        have := congrArg List.length this
        simp [spread] at this
        omega
      · have hr : r.f0 = l[i - 1] := by
          have h2 : l.take i = l.take (i - 1) ++ [l[i - 1]] := by rw [← take_snoc l (i - 1) (by omega)]; congr 1; omega
          rw [h2] at he
          exact last_runs he
        rw [he] at ih hlen ⊢
        rw [addR_snoc, hr] at ih
        have hz : ((a ++ [r]).length : Int) = (a.length : Int) + 1 := by simp
        by_cases hx : l[i - 1] = l[i]
        · rw [if_pos hx] at ih ⊢
          have hcnt : 1 ≤ r.f1 ∧ r.f1 ≤ i := by
            have hm := may_runs (l.take i)
            have hs := congrArg List.length (spread_runs (l.take i))
            rw [he] at hm hs
            rw [spread_snoc, List.length_append, List.length_replicate, List.length_take] at hs
            have := hm.last
            omega
          rw [w64 (n := ((a ++ [r]).length : Int) - 1) (by omega) (by omega), if_pos (by omega), if_pos (by omega)]
          rw [show ((a ++ [r]).length : Int) - 1 = ((a.length : Nat) : Int) by omega, rd53_at _ _ (by simp), Int.toNat_natCast]
          simp only [List.getElem_concat_length]
          rw [set_last, w64 (n := r.f1 + 1) (by omega) (by omega), hr, show (i : Int) + 1 = ((i + 1 : Nat) : Int) by omega]
          exact ih
        · rw [if_neg hx] at ih ⊢
          rw [if_pos (by simp at hlen; simp; omega), show (i : Int) + 1 = ((i + 1 : Nat) : Int) by omega]
          exact ih
    · obtain rfl : i = 0 := by omega
      rw [if_neg h0, if_pos (by omega), if_pos (by simp [runs]), rd_at l 0 hi, show ((0 : Nat) : Int) + 1 = ((0 + 1 : Nat) : Int) by omega]
      exact ih
theorem refRuns_some (l : List Int) (hl : (l.length : Int) ≤ 1000000000000) (k : Nat) (hk : l.length + 1 ≤ k) : bonsairef06_Runs.f k l = some (runs l) :=
  refRuns_l l hl l.length k 0 (by omega) hk
theorem may_same (rs : List S53) (hl : (rs.length : Int) ≤ 1000000000000) : ∀ (k : Nat) (i : Int), 0 ≤ i → runs_May.l0 k rs rs (rs.length : Int) i = bonsairef06_May.l0 k rs i
  | 0, _, _ => rfl
  | k + 1, i, h0 => by
    unfold runs_May.l0 bonsairef06_May.l0
    by_cases hi : i < (rs.length : Int)
    · rw [if_pos hi, if_pos hi, if_pos h0, if_pos hi, if_pos h0, w64 (n := i + 1) (by omega) (by omega), may_same rs hl k (i + 1) (by omega)]
    · rw [if_neg hi, if_neg hi]
theorem may_iff (rs : List S53) : MayR rs ↔ (∀ (i : Nat) (h : i < rs.length), 1 ≤ rs[i].f1) ∧ ∀ (i : Nat) (h : i + 1 < rs.length), rs[i].f0 ≠ rs[i + 1].f0 := by
  constructor
  · intro h
    induction h with
    | nil => exact ⟨fun i h => absurd h (by simp), fun i h => absurd h (by simp)⟩
    | one r h => exact ⟨fun i hi => by obtain rfl : i = 0 := by simpa using hi
                                       exact h, fun i hi => by simp at hi⟩
    | snoc a q r h h1 hne ih =>
      refine ⟨fun i hi => ?_, fun i hi => ?_⟩
      · by_cases hc : i < (a ++ [q]).length
        · rw [List.getElem_append_left hc]; exact ih.1 i hc
        · rw [List.getElem_append_right (by omega)]; simpa using h1
      · by_cases hc : i + 1 < (a ++ [q]).length
        · rw [List.getElem_append_left (by omega), List.getElem_append_left hc]; exact ih.2 i hc
        · have hz : (a ++ [q]).length = a.length + 1 := by simp
          have hz2 : (a ++ [q] ++ [r]).length = a.length + 2 := by simp
          obtain rfl : i = a.length := by omega
          rw [List.getElem_append_left (by omega), List.getElem_append_right (by omega)]
          simpa using hne
  · obtain ⟨n, hn⟩ : ∃ n, n = rs.length := ⟨_, rfl⟩
    induction n generalizing rs with
    | zero => intro _; rw [List.length_eq_zero_iff.mp hn.symm]; exact .nil
    | succ n ih =>
      rintro ⟨h1, h2⟩
      rcases snoc_cases rs with rfl | ⟨b, r, rfl⟩
      · exact .nil
      · have hz : (b ++ [r]).length = b.length + 1 := by simp
        rcases snoc_cases b with rfl | ⟨a, q, rfl⟩
        · exact .one r (by have := h1 0 (by simp); simpa using this)
        · have hz3 : (a ++ [q]).length = a.length + 1 := by simp
          refine .snoc a q r (ih _ (by omega) ⟨fun i hi => ?_, fun i hi => ?_⟩) ?_ ?_
          · have := h1 i (by omega)
            rwa [List.getElem_append_left (by omega)] at this
          · have := h2 i (by omega)
            rwa [List.getElem_append_left (by omega), List.getElem_append_left (bs := [r]) hi] at this
          · have := h1 (a ++ [q]).length (by omega)
            rw [List.getElem_append_right (by omega)] at this
            simpa using this
          · have := h2 a.length (by omega)
            rw [List.getElem_append_left (by omega), List.getElem_append_right (by omega)] at this
            simpa using this
theorem may_l (rs : List S53) (hl : (rs.length : Int) ≤ 1000000000000) : ∀ (d k i : Nat), i + d = rs.length → d + 1 ≤ k → ((∀ (j : Nat) (h : j < rs.length), j < i → 1 ≤ rs[j].f1) ∧ ∀ (j : Nat) (h : j + 1 < rs.length), j + 1 < i → rs[j].f0 ≠ rs[j + 1].f0) →
    ∃ b, bonsairef06_May.l0 k rs (i : Int) = some b ∧ (b = true ↔ MayR rs)
  | 0, k, i, hd, hk, hm => by
    obtain ⟨k, rfl⟩ : ∃ k', k = k' + 1 := ⟨k - 1, by omega⟩
    unfold bonsairef06_May.l0
    rw [if_neg (by omega)]
    exact ⟨true, rfl, by simp only [true_iff]; exact (may_iff rs).mpr ⟨fun j h => hm.1 j h (by omega), fun j h => hm.2 j h (by omega)⟩⟩
  | d + 1, k, i, hd, hk, hm => by
    obtain ⟨k, rfl⟩ : ∃ k', k = k' + 1 := ⟨k - 1, by omega⟩
    have hi : i < rs.length := by omega
    unfold bonsairef06_May.l0
    rw [if_pos (by omega), if_pos (by omega), rd53_at rs i hi]
    by_cases h1 : rs[i].f1 < 1
    · rw [if_pos h1]
      exact ⟨false, rfl, by simp only [Bool.false_eq_true, false_iff]; intro h; have := ((may_iff rs).mp h).1 i hi; omega⟩
    · rw [if_neg h1, w64 (n := (i : Int) + 1) (by omega) (by omega)]
      by_cases h0 : (i : Int) > 0
      · rw [if_pos h0, w64 (n := (i : Int) - 1) (by omega) (by omega), if_pos (by omega), if_pos (by omega), show (i : Int) - 1 = ((i - 1 : Nat) : Int) by omega, rd53_at rs (i - 1) (by omega)]
        by_cases h2 : rs[i - 1].f0 = rs[i].f0
        · rw [if_pos h2]
          refine ⟨false, rfl, ?_⟩
          simp only [Bool.false_eq_true, false_iff]
          intro h
          have := ((may_iff rs).mp h).2 (i - 1) (by omega)
          simp only [show i - 1 + 1 = i by omega] at this
          exact this h2
        · rw [if_neg h2, show (i : Int) + 1 = ((i + 1 : Nat) : Int) by omega]
          refine may_l rs hl d k (i + 1) (by omega) (by omega) ⟨fun j h hj => ?_, fun j h hj => ?_⟩
          · by_cases hji : j = i
            · subst hji; omega
            · exact hm.1 j h (by omega)
          · by_cases hji : j + 1 = i
            · subst hji; simpa using h2
            · exact hm.2 j h (by omega)
      · rw [if_neg h0, show (i : Int) + 1 = ((i + 1 : Nat) : Int) by omega]
        refine may_l rs hl d k (i + 1) (by omega) (by omega) ⟨fun j h hj => ?_, fun j h hj => ?_⟩
        · obtain rfl : j = i := by omega
          omega
        · omega
theorem may_some (rs : List S53) (hl : (rs.length : Int) ≤ 1000000000000) (k : Nat) (hk : rs.length + 1 ≤ k) : ∃ b, runs_May.f k rs = some b ∧ bonsairef06_May.f k rs = some b ∧ (b = true ↔ MayR rs) := by
  obtain ⟨b, h1, h2⟩ := may_l rs hl rs.length k 0 (by omega) hk ⟨fun j _ h => absurd h (by omega), fun j _ h => absurd h (by omega)⟩
  exact ⟨b, (may_same rs hl k 0 (Int.le_refl 0)).trans h1, h1, h2⟩
theorem drop_at (l : List S53) (i : Nat) (h : i < l.length) : l.drop i = l[i] :: l.drop (i + 1) := List.drop_eq_getElem_cons h
theorem MayR.pos {rs : List S53} (h : MayR rs) : ∀ r ∈ rs, 1 ≤ r.f1 := fun r hr => by
  obtain ⟨i, hi, rfl⟩ := List.getElem_of_mem hr
  exact ((may_iff rs).mp h).1 i hi
noncomputable def put (x : Int) : ByteArray := strOfNums (putL 9 x)
theorem put_size (x : Int) : 1 ≤ (put x).size ∧ (put x).size ≤ 10 := by
  have := putL_length 9 x
  unfold put
  rw [strOfNums_size]
  omega
noncomputable def encR : List S53 → ByteArray
  | [] => noText
  | r :: rs => (put r.f0 ++ put r.f1) ++ encR rs
theorem encR_size : ∀ rs : List S53, (encR rs).size ≤ 20 * rs.length
  | [] => Nat.zero_le _
  | r :: rs => by
    have := encR_size rs
    have := put_size r.f0
    have := put_size r.f1
    unfold encR
    simp only [ByteArray.size_append, List.length_cons]
    omega
theorem no_app (a : ByteArray) : noText ++ a = a := by
  apply ByteArray.ext
  simp [noText]
theorem app_no (a : ByteArray) : a ++ noText = a := by
  apply ByteArray.ext
  simp [noText]
theorem put_both (x : Int) (h0 : 0 ≤ x) (h1 : x < 18446744073709551616) (k : Nat) (hk : 10 ≤ k) : pack_Put.f k x = some (put x) ∧ bonsairef03_Put.f k x = some (put x) := put_some x h0 h1 k hk
def Wf (rs : List S53) : Prop := ∀ r ∈ rs, (0 ≤ r.f0 ∧ r.f0 < 18446744073709551616) ∧ 0 ≤ r.f1 ∧ r.f1 < 9223372036854775808
theorem enc_g (k : Nat) (hk : 10 ≤ k) : ∀ (l : List S98) (acc : ByteArray), Wf (l.map cv) → acc.size + 20 * l.length ≤ 140737488355328 → runs_Encode.g k l acc = some (acc ++ encR (l.map cv))
  | [], acc, _, _ => by simp only [runs_Encode.g, List.map_nil, encR, app_no]
  | x :: xs, acc, hw, hs => by
    have hx := hw (cv x) List.mem_cons_self
    have h0 := put_size x.f0
    have h1 := put_size x.f1
    simp only [List.length_cons] at hs
    simp only [cv] at hx
    unfold runs_Encode.g
    rw [show IntKind.u64.wrap x.f1 = x.f1 from pack_wraps_u64 _ hx.2.1 (by omega), (put_both x.f0 hx.1.1 hx.1.2 k hk).1, (put_both x.f1 hx.2.1 (by omega) k hk).1]
    simp only [Option.bind_some]
    rw [if_pos (by omega), enc_g k hk xs _ (fun r hr => hw r (List.mem_cons_of_mem _ hr)) (by simp only [ByteArray.size_append]; omega)]
    simp only [List.map_cons, encR, cv, ByteArray.append_assoc]
theorem wf_runs {l : List Int} (hl : (l.length : Int) ≤ 1000000000000) (h : ∀ x ∈ l, 0 ≤ x ∧ x < 18446744073709551616) : Wf (runs l) := fun r hr => by
  have hp := MayR.pos (may_runs l) r hr
  obtain ⟨a, b, hab⟩ := List.append_of_mem hr
  have hs := spread_runs l
  rw [hab] at hs
  have hsp : spread (a ++ r :: b) = spread a ++ (List.replicate r.f1.toNat r.f0 ++ spread b) := by simp [spread]
  rw [hsp] at hs
  have hlen := congrArg List.length hs
  simp only [List.length_append, List.length_replicate] at hlen
  have hmem : r.f0 ∈ l := by
    rw [← hs]
    refine List.mem_append_right _ (List.mem_append_left _ ?_)
    rw [List.mem_replicate]
    exact ⟨by omega, rfl⟩
  exact ⟨h _ hmem, by omega, by omega⟩
theorem refEnc_l (rs : List S53) (hl : (rs.length : Int) ≤ 1000000000000) (hw : Wf rs) : ∀ (d k i : Nat) (acc : ByteArray), i + d = rs.length → d + 11 ≤ k → acc.size + 20 * d ≤ 9223372036854775807 →
    bonsairef06_Encode.l0 k rs acc (i : Int) = some (acc ++ encR (rs.drop i))
  | 0, k, i, acc, hd, hk, hs => by
    obtain ⟨k, rfl⟩ : ∃ k', k = k' + 1 := ⟨k - 1, by omega⟩
    unfold bonsairef06_Encode.l0
    rw [if_neg (by omega), List.drop_eq_nil_of_le (by omega)]
    simp only [encR, app_no]
  | d + 1, k, i, acc, hd, hk, hs => by
    obtain ⟨k, rfl⟩ : ∃ k', k = k' + 1 := ⟨k - 1, by omega⟩
    have hi : i < rs.length := by omega
    have hx := hw rs[i] (List.getElem_mem hi)
    have h0 := put_size rs[i].f0
    have h1 := put_size rs[i].f1
    unfold bonsairef06_Encode.l0
    rw [if_pos (by omega), if_pos (by omega), rd53_at rs i hi, show IntKind.u64.wrap rs[i].f1 = rs[i].f1 from pack_wraps_u64 _ hx.2.1 (by omega), (put_both rs[i].f0 hx.1.1 hx.1.2 k (by omega)).2, (put_both rs[i].f1 hx.2.1 (by omega) k (by omega)).2]
    simp only [Option.bind_some]
    rw [if_pos (by omega), if_pos (by rw [ByteArray.size_append]; omega), w64 (by omega) (by omega), show (i : Int) + 1 = ((i + 1 : Nat) : Int) by omega]
    rw [refEnc_l rs hl hw d k (i + 1) _ (by omega) (by omega) (by simp only [ByteArray.size_append]; omega), drop_at rs i hi]
    simp only [encR, ByteArray.append_assoc]
theorem enc_some (l : List Int) (hl : (l.length : Int) ≤ 1000000000) (h : ∀ x ∈ l, 0 ≤ x ∧ x < 18446744073709551616) (k : Nat) (hk : l.length + 11 ≤ k) : runs_Encode.f k l = some (encR (runs l)) ∧ bonsairef06_Encode.f k l = some (encR (runs l)) := by
  have hw := wf_runs (by omega) h
  have hn := len_runs l
  constructor
  · obtain ⟨r98, h1, h2⟩ := of_is l (by omega) k (by omega)
    have hz : r98.length = (runs l).length := by rw [← h2]; simp
    unfold runs_Encode.f
    rw [h1]
    simp only [Option.bind_some]
    have he : ByteArray.empty = noText := rfl
    have h0 : noText.size = 0 := rfl
    rw [if_pos (by omega), enc_g k (by omega) r98 _ (by rw [h2]; exact hw) (by rw [he, h0]; omega), h2, he, no_app]
  · unfold bonsairef06_Encode.f
    rw [refRuns_some l (by omega) k (by omega)]
    simp only [Option.bind_some]
    have h0 : noText.size = 0 := rfl
    have := refEnc_l (runs l) (by omega) hw (runs l).length k 0 noText (by omega) (by omega) (by rw [h0]; omega)
    simp only [Int.natCast_zero, List.drop_zero, no_app] at this
    exact this
end Go.Proofs.Ytbgjoiccehiglaa.LibW
end
namespace Go.Proofs.Ytbgjoiccehiglaa.Print
end Go.Proofs.Ytbgjoiccehiglaa.Print
section
namespace Go.Proofs.Ytbgjoiccehiglaa.LibX
open Go.RowKit Go.Proofs.Ytbgjoiccehiglaa.Print Go.Proofs.YtbgjoiccehiglaaW.PrintWords Go.Proofs.YtbgjoiccehiglaaW.PrintLast Go.Proofs.YtbgjoiccehiglaaW.PrintMore Go.Proofs.Ytbgjoiccehiglaa.LibU Go.Proofs.Ytbgjoiccehiglaa.LibV Go.Proofs.Ytbgjoiccehiglaa.LibW Go.Proofs.Ytbgjoiccehiglaa.LibC Go.Proofs.Ytbgjoiccehiglaa.LibD Go.Proofs.Ytbgjoiccehiglaa.LibE Go.Proofs.Ytbgjoiccehiglaa.LibG
theorem w64' {x : Int} (h0 : 0 ≤ x) (h1 : x < 18446744073709551616) : IntKind.u64.wrap x = x := pack_wraps_u64 x h0 h1
end Go.Proofs.Ytbgjoiccehiglaa.LibX
end
namespace Go.Proofs.Ytbgjoiccehiglaa.LibY
end Go.Proofs.Ytbgjoiccehiglaa.LibY
section
namespace Go.Proofs.Ytbgjoiccehiglaa.Print
open Go.RowKit Go.Proofs.YtbgjoiccehiglaaW.PrintWords Go.Proofs.YtbgjoiccehiglaaW.PrintLast Go.Proofs.YtbgjoiccehiglaaW.PrintMore
attribute [local go_sem] max2_int min2_int max_two min_two max_three min_three max_four min_four
set_option linter.unusedVariables false
set_option linter.unusedSimpArgs false
def bonsairef04_Few.l0 : Nat → List ByteArray → Int → Int → Option (Bool)
  | 0, _, _, _ => none
  | k + 1, x0, x2, x7 => if x7 < (x0.length : Int) then (if 0 ≤ x7 then (if ((rdOf ByteArray.empty x0 x7).size : Int) > x2 then (some false) else (bonsairef04_Few.l0 k x0 x2 (wrap64 (x7 + 1)))) else (none)) else (some true)
def bonsairef04_Few.f (k : Nat) (l0 : List ByteArray) (a1 : Int) (a2 : Int) : Option (Bool) := if (l0.length : Int) > a1 then (some false) else (bonsairef04_Few.l0 k l0 a2 0)
set_option maxHeartbeats 8000000 in
set_option maxRecDepth 100000 in
theorem bonsairef04_Few.calls (k : Nat) (A0 : Option Addr) (c0 : Nat) (l0 : List ByteArray) (a1 : Int) (a2 : Int) (r : Bool) (w : World) (hr0 : Kd.C Kd.string w A0 l0.length l0) (hc0 : l0.length ≤ c0) (h : bonsairef04_Few.f k l0 a1 a2 = some r) :
    Calls Try.prog 37 #[.slice A0 l0.length c0, .int .i64 a1, .int .i64 a2] w fun e w' => e = .returned (.bool r) ∧ Drawn0 w w' := by
  have HR0 := Aside0.mk hr0
  have HC0 := Aside0.mk hc0
  clear hr0 hc0
  have H : (if (l0.length : Int) > a1 then (some false) else (bonsairef04_Few.l0 k l0 a2 0)) = some r := h
  clear h
  by_cases c4 : (l0.length : Int) > a1
  · rw [if_pos c4] at H
    have c4b0 : decide (a1 < (l0.length : Int)) = true := decide_eq_true c4
    clear c4
    obtain rfl := Option.some.inj H
    go_enter Try.func37, Try.ntmps37
    go_wp2
    go_ret
    exact ⟨by first | rfl | (simp; done) | (simp [*]; done), by repeat (first | exact Drawn0.refl _ | apply Drawn0.step)⟩
  · rw [if_neg c4] at H
    have c4b0 : decide (a1 < (l0.length : Int)) = false := decide_eq_false c4
    clear c4
    have H' := Aside0.mk H
    clear H
    go_enter Try.func37, Try.ntmps37
    go_wp2
    go_loopg [7] k (fun kq v7 w' => ∃ (x7_1 : Int), v7 = .int .i64 x7_1 ∧ Aside0 (bonsairef04_Few.l0 kq l0 a2 x7_1 = some r) ∧ Aside0 (kq ≤ k) ∧ Drawn0 w w')
    case atStart => exact ⟨(0), (by first | rfl | (simp; done) | (simp [*]; done)), H', ⟨Nat.le_refl _⟩, by repeat (first | exact Drawn0.refl _ | apply Drawn0.step)⟩
    case round =>
      clear H'
      try clear p2
      try clear c3
      try clear c4
      try clear c4b0
      obtain ⟨x7_1, rfl, HA, HK1, ⟨m1, rfl⟩⟩ := hrel
      cases gk with
      | zero => exact absurd HA.out (by simp [bonsairef04_Few.l0])
      | succ k1 =>
        have H := HA.out
        clear HA
        simp only [bonsairef04_Few.l0] at H
        by_cases c5 : x7_1 < (l0.length : Int)
        · rw [if_pos c5] at H
          have c5b0 : decide (x7_1 < (l0.length : Int)) = true := decide_eq_true c5
          clear c5
          by_cases c6 : 0 ≤ x7_1
          · rw [if_pos c6] at H
            have c6b0 : decide (0 ≤ x7_1) = true := decide_eq_true c6
            clear c6
            by_cases c7 : ((rdOf ByteArray.empty l0 x7_1).size : Int) > a2
            · rw [if_pos c7] at H
              have c7b0 : decide (a2 < ((rdOf ByteArray.empty l0 x7_1).size : Int)) = true := decide_eq_true c7
              clear c7
              obtain rfl := Option.some.inj H
              have p231 : 0 ≤ (x7_1 : Int) := of_decide_eq_true (by first | (with_reducible assumption) | assumption)
              have q231 : x7_1 < (l0.length : Int) := of_decide_eq_true (by first | (with_reducible assumption) | assumption)
              obtain ⟨ad231, e231, hx231_0⟩ := Kd.at_string HR0.out x7_1 p231 q231
              cases e231
              replace p231 := eq_true p231
              replace q231 := eq_true q231
              go_wp2
              go_ret
              exact ⟨by first | rfl | (simp; done) | (simp [*]; done), by repeat (first | exact Drawn0.refl _ | apply Drawn0.step)⟩
            · rw [if_neg c7] at H
              have c7b0 : decide (a2 < ((rdOf ByteArray.empty l0 x7_1).size : Int)) = false := decide_eq_false c7
              clear c7
              have H' := Aside0.mk H
              clear H
              have p231 : 0 ≤ (x7_1 : Int) := of_decide_eq_true (by first | (with_reducible assumption) | assumption)
              have q231 : x7_1 < (l0.length : Int) := of_decide_eq_true (by first | (with_reducible assumption) | assumption)
              obtain ⟨ad231, e231, hx231_0⟩ := Kd.at_string HR0.out x7_1 p231 q231
              cases e231
              replace p231 := eq_true p231
              replace q231 := eq_true q231
              go_wp2
              go_roundg k1
              case measure => have := HK1.out; omega
              case rel => exact ⟨(wrap64 (x7_1 + 1)), (by first | rfl | (simp; done) | (simp [*]; done)), H', ⟨by have := HK1.out; omega⟩, by repeat (first | exact Drawn0.refl _ | apply Drawn0.step)⟩
          · rw [if_neg c6] at H
            exact absurd H (by simp)
        · rw [if_neg c5] at H
          have c5b0 : decide (x7_1 < (l0.length : Int)) = false := decide_eq_false c5
          clear c5
          obtain rfl := Option.some.inj H
          go_wp2
          go_ret
          exact ⟨by first | rfl | (simp; done) | (simp [*]; done), by repeat (first | exact Drawn0.refl _ | apply Drawn0.step)⟩
end Go.Proofs.Ytbgjoiccehiglaa.Print
end
namespace Go.Proofs.Ytbgjoiccehiglaa.Print
end Go.Proofs.Ytbgjoiccehiglaa.Print
section
namespace Go.Proofs.Ytbgjoiccehiglaa.Pure
open Go.RowKit Go.Proofs.Ytbgjoiccehiglaa.Print Go.Proofs.YtbgjoiccehiglaaW.PrintWords Go.Proofs.YtbgjoiccehiglaaW.PrintLast Go.Proofs.YtbgjoiccehiglaaW.PrintMore Go.Proofs.Ytbgjoiccehiglaa.LibA Go.Proofs.Ytbgjoiccehiglaa.LibB Go.Proofs.Ytbgjoiccehiglaa.LibC Go.Proofs.Ytbgjoiccehiglaa.LibE Go.Proofs.Ytbgjoiccehiglaa.LibF Go.Proofs.Ytbgjoiccehiglaa.LibG
theorem rd_of {l : List ByteArray} {i : Nat} (h : i < l.length) : rdOf ByteArray.empty l (i : Int) = l[i] := by
  simp [rdOf, List.getD_eq_getElem?_getD, h]
theorem few_l (l : List ByteArray) (most : Int) : ∀ (d i k : Nat), i + d = l.length → l.length ≤ 9223372036854775000 → d < k → bonsairef04_Few.l0 k l most (i : Int) = some (decide (∀ x ∈ l.drop i, (x.size : Int) ≤ most))
  | d, i, 0, _, _, hk => by omega
  | d, i, k + 1, hi, hl, hk => by
    simp only [bonsairef04_Few.l0]
    cases d with
    | zero =>
      rw [if_neg (by omega), List.drop_eq_nil_of_le (by omega)]
      simp
    | succ d =>
      have hlt : i < l.length := by omega
      rw [if_pos (by omega), if_pos (by omega), rd_of hlt, List.drop_eq_getElem_cons hlt]
      by_cases h : (l[i].size : Int) > most
      · rw [if_pos h]
        congr 1
        symm
        rw [decide_eq_false_iff_not]
        intro hall
        have := hall l[i] List.mem_cons_self
        omega
      · rw [if_neg h, w64 (by omega) (by omega), show (i : Int) + 1 = ((i + 1 : Nat) : Int) by omega, few_l l most d (i + 1) k (by omega) hl (by omega)]
        congr 1
        rw [decide_eq_decide, List.forall_mem_cons]
        exact ⟨fun h' => ⟨by omega, h'⟩, fun h' => h'.2⟩
theorem few_some (l : List ByteArray) (n most : Int) (hl : n ≤ 9223372036854775000) (k : Nat) (hk : n.toNat + 1 ≤ k) (hn : 0 ≤ n) : bonsairef04_Few.f k l n most = some (decide ((l.length : Int) ≤ n ∧ ∀ x ∈ l, (x.size : Int) ≤ most)) := by
  unfold bonsairef04_Few.f
  by_cases h : (l.length : Int) > n
  · rw [if_pos h]
    congr 1
    symm
    simp
    omega
  · rw [if_neg h]
    have := few_l l most l.length 0 k (by omega) (by omega) (by omega)
    simp only [Int.natCast_zero, List.drop_zero] at this
    rw [this]
    congr 1
    simp
    omega
theorem no_app (a : ByteArray) : noText ++ a = a := by
  have h0 : noText.size = 0 := rfl
  have hz : (noText ++ a).size = a.size := by rw [ByteArray.size_append]; omega
  refine ba_ext hz (fun i hi0 hi => ?_)
  have := bt_app_right (s := noText) (t := a) (d := i) hi0 (by omega)
  rwa [show ((noText.size : Nat) : Int) + i = i by omega] at this
theorem app_no (a : ByteArray) : a ++ noText = a := by
  have h0 : noText.size = 0 := rfl
  have hz : (a ++ noText).size = a.size := by rw [ByteArray.size_append]; omega
  exact ba_ext hz (fun i hi0 hi => bt_app_left hi0 (by omega))
end Go.Proofs.Ytbgjoiccehiglaa.Pure
end
section
namespace Go.Proofs.Ytbgjoiccehiglaa.Print
open Go.RowKit Go.Proofs.YtbgjoiccehiglaaW.PrintWords Go.Proofs.YtbgjoiccehiglaaW.PrintLast Go.Proofs.YtbgjoiccehiglaaW.PrintMore
attribute [local go_sem] max2_int min2_int max_two min_two max_three min_three max_four min_four
set_option linter.unusedVariables false
set_option linter.unusedSimpArgs false
def wordAt (s : ByteArray) : List ByteArray → Nat → Option Nat
  | [], _ => none
  | x :: xs, i => if x.data.toList = s.data.toList then some i else wordAt s xs (i + 1)
def dictG : List ByteArray → List ByteArray → List Int → List ByteArray × List Int
  | [], w, a => (w, a)
  | s :: l, w, a => match wordAt s w 0 with
    | some k => dictG l w (a ++ [(k : Int)])
    | none => dictG l (w ++ [s]) (a ++ [(w.length : Int)])
def sKey (s : ByteArray) : Lit := .string s.data.toList
theorem wordAt_snoc (t s : ByteArray) : ∀ (l : List ByteArray) (i : Nat), wordAt t (l ++ [s]) i = match wordAt t l i with
    | some k => some k
    | none => if s.data.toList = t.data.toList then some (i + l.length) else none
  | [], i => by simp [wordAt]
  | x :: xs, i => by
    show (if x.data.toList = t.data.toList then some i else wordAt t (xs ++ [s]) (i + 1)) = match (if x.data.toList = t.data.toList then some i else wordAt t xs (i + 1)) with
      | some k => some k
      | none => _
    by_cases h : x.data.toList = t.data.toList
    · rw [if_pos h, if_pos h]
    · rw [if_neg h, if_neg h, wordAt_snoc t s xs (i + 1), List.length_cons, show i + 1 + xs.length = i + (xs.length + 1) by omega]
theorem wordAt_lt (s : ByteArray) : ∀ (l : List ByteArray) (i k : Nat), wordAt s l i = some k → i ≤ k ∧ k < i + l.length
  | [], i, k, h => by simp [wordAt] at h
  | x :: xs, i, k, h => by
    unfold wordAt at h
    split at h
    · injection h with h; subst h; simp
    · have := wordAt_lt s xs (i + 1) k h
      simp only [List.length_cons]; omega
structure MapsTo (D : DataW Unit) (words : List ByteArray) : Prop where
  isMap : Maps.IsMap D
  at_ : ∀ s k, wordAt s words 0 = some k → D.atKey (sKey s) (.lit (.int .u64 0)) = .lit (.int .u64 (k : Int))
  has_ : ∀ s, Maps.has D (sKey s) = (wordAt s words 0).isSome
theorem mapsTo_nil : MapsTo (.map []) [] := ⟨Maps.isMap_empty, fun s k h => by simp [wordAt] at h, fun s => rfl⟩
theorem mapsTo_put {D : DataW Unit} {words : List ByteArray} (h : MapsTo D words) (s : ByteArray) (hs : wordAt s words 0 = none) : MapsTo (D.put (sKey s) (.lit (.int .u64 (words.length : Int)))) (words ++ [s]) := by
  have hk : WideAt.IsKeyLit (sKey s) := by unfold sKey WideAt.IsKeyLit; trivial
  refine ⟨h.isMap.put _ _, fun t k ht => ?_, fun t => ?_⟩
  · rw [wordAt_snoc, Nat.zero_add] at ht
    by_cases hst : s.data.toList = t.data.toList
    · have e : sKey t = sKey s := by unfold sKey; rw [hst]
      rw [e, Maps.atKey_put_same h.isMap hk]
      cases hw : wordAt t words 0 with
      | some j =>
        exfalso
        have : ∀ (l : List ByteArray) (i : Nat), wordAt t l i = wordAt s l i := by
          intro l
          induction l with
          | nil => intro i; rfl
          | cons x xs ih => intro i; unfold wordAt; rw [hst, ih]
        rw [this, hs] at hw
        cases hw
      | none =>
        rw [hw] at ht
        simp only [if_pos hst, Option.some.injEq] at ht
        rw [ht]
    · have e : sKey t ≠ sKey s := by unfold sKey; intro h; injection h with h; exact hst h.symm
      rw [Maps.atKey_put_other e]
      cases hw : wordAt t words 0 with
      | some j => rw [hw] at ht; injection ht with ht; subst ht; exact h.at_ t _ hw
      | none => rw [hw] at ht; simp only [if_neg hst] at ht; cases ht
  · rw [wordAt_snoc]
    by_cases hst : s.data.toList = t.data.toList
    · have e : sKey t = sKey s := by unfold sKey; rw [hst]
      rw [e, Maps.has_put_same h.isMap hk]
      cases hw : wordAt t words 0 with
      | some j => rfl
      | none => simp only [if_pos hst]; rfl
    · have e : sKey t ≠ sKey s := by unfold sKey; intro h; injection h with h; exact hst h.symm
      rw [Maps.has_put_other e, h.has_]
      cases hw : wordAt t words 0 with
      | some j => rfl
      | none => simp only [if_neg hst]
def dict_Words.f (l0 : List ByteArray) : Option (List ByteArray × List Int) := if l0.length ≤ 1000000000000 ∧ (∀ s ∈ l0, s.size ≤ 140737488355328) then some (dictG l0 [] []) else none
set_option maxRecDepth 100000 in
theorem zero51 (w : World) : (zeroValue 51).run Try.prog w = .ok (.int .u64 0) w := by rfl
set_option maxHeartbeats 8000000 in
set_option maxRecDepth 100000 in
theorem dict_Words.calls (A0 : Option Addr) (c0 : Nat) (l0 : List ByteArray) (r1 : List ByteArray) (r2 : List Int) (w : World) (hr0 : Kd.C Kd.string w A0 l0.length l0) (hc0 : l0.length ≤ c0) (h : dict_Words.f l0 = some (r1, r2)) :
    Calls Try.prog 65 #[.slice A0 l0.length c0] w fun e w' => ∃ (v0_ v1_ : Value), e = .returned (.tuple #[v0_, v1_]) ∧ Kd.R Kd.string 9 w' w.heap.size (fun _ => True) v0_ r1 ∧ Kd.R (Kd.int .u64) 51 w' w.heap.size (fun _ => True) v1_ r2 ∧ Below w.heap.size w w' := by
  have HR0 := Aside0.mk hr0
  have HC0 := Aside0.mk hc0
  unfold dict_Words.f at h
  by_cases hlen : l0.length ≤ 1000000000000 ∧ (∀ s ∈ l0, s.size ≤ 140737488355328)
  case neg => rw [if_neg hlen] at h; exact absurd h (by simp)
  rw [if_pos hlen] at h
  have H' := Aside0.mk (Option.some.inj h)
  have LM := Aside0.mk hlen
  clear hr0 hc0 h hlen
  have hmm : ∀ w : World, (Instr.makeMap 111 none).run Try.prog w = .ok (.map (some w.heap.size)) (w.alloc (.map #[] 0)) := fun _ => rfl
  go_enter Try.func65, Try.ntmps65
  go_wp2_with ((with_reducible refine gate_dst (N := 14) rfl ?_); refine Kd.R_make (Kd.int .u64) (w0 := w) w.heap.size 51 rfl (N := 14) rfl 38 (.tmp 13) (.tmp 13) rfl (l0.length : Int) rfl rfl Try.underlying38 (.int .u64 0) 8 info51 rfl (by decide) (by decide) (0 : Int) (ok := fun k_ => k_ ≠ w.heap.size) (okp := fun _ => False) rfl (fun _ hk => hk.elim) ?aF ?a0 ?aL ?aB ?aS ?_; (case aF => simp); (case a0 => omega); (case aL => have := LM.out.1; omega); (case aB => exact below_alloc (Below.refl _ _) _); (case aS => simp); intro v6 w2 ho hb hg hnw; have HT := Aside0.mk ho; have HB := Aside0.mk hb; have HM := Aside0.mk (World.ownsMap.kept (H := Unit) (World.ownsMap_made w Try.prog 9 (plainElem Try.prog 51)) hg (by simp)); clear ho hb hg hnw)
  go_loopg [5, 17] (l0.length + 1) (fun kq v5 v17 w' => ∃ (i : Int) (n : Nat) (D : DataW Unit) (words : List ByteArray) (places : List Int), v17 = .int .i64 i ∧ Aside0 (0 ≤ i ∧ i ≤ l0.length ∧ (kq : Int) + i = l0.length + 1 ∧ n ≤ i ∧ words.length ≤ i ∧ places.length = i) ∧ Aside0 (dictG (l0.drop i.toNat) words places = (r1, r2)) ∧ Aside0 (MapsTo D words) ∧ Aside0 (w'.ownsMap Try.prog 9 (plainElem Try.prog 51) w.heap.size n D) ∧ Aside0 (Kd.R Kd.string 9 w' w.heap.size (fun k_ => k_ ≠ w.heap.size) v5 words) ∧ Aside0 (Kd.R (Kd.int .u64) 51 w' w.heap.size (fun k_ => k_ ≠ w.heap.size) v6 (places ++ List.replicate (l0.length - i.toNat) 0)) ∧ Aside0 (Below w.heap.size w w'))
  case atStart => exact ⟨0, 0, .map [], [], [], by simp, ⟨by simp⟩, H', ⟨mapsTo_nil⟩, HM, ⟨Kd.R_nil _ _ _ _ _⟩, ⟨by simpa using HT.out⟩, HB⟩
  case round =>
    clear H' HT HM HB
    obtain ⟨i, n, D, words, places, rfl, HK, HG, HD, HM, HW, HT, HB⟩ := hrel
    cases gk with
    | zero => have := HK.out; exact absurd this (by omega)
    | succ k1 =>
      by_cases hi : i < (l0.length : Int)
      · have hib : decide (i < (l0.length : Int)) = true := decide_eq_true hi
        have hk9 := HK.out
        have hG := HG.out
        clear HG
        obtain ⟨s, hs⟩ : ∃ s, s = rdOf ByteArray.empty l0 i := ⟨_, rfl⟩
        have hdrop : l0.drop i.toNat = s :: l0.drop (i.toNat + 1) := by
          rw [List.drop_eq_getElem_cons (show i.toNat < l0.length by omega), hs]
          congr 1
          unfold rdOf
          simp [List.getD_eq_getElem?_getD, show i.toNat < l0.length by omega]
        have hsz : s.size ≤ 140737488355328 := LM.out.2 s (List.mem_of_mem_drop (i := i.toNat) (by rw [hdrop]; exact List.mem_cons_self))
        rw [hdrop] at hG
        unfold dictG at hG
        have p29 : 0 ≤ i := by omega
        obtain ⟨ad, e0, hx0⟩ := Kd.at_string HR0.out i p29 hi
        subst e0
        have hx := (HB.out.cell (World.block_lt_of_cell? w _ hx0)).trans hx0
        rw [← hs] at hx
        have HKEY := Aside0.mk (Go.WideMaps.keyOf_string_mk (P := Try.prog) (k := 9) Try.underlying9 (s := s) (by have h_ : (140737488355328 : Nat) ≤ maxLen := (by decide); omega))
        have HI := Aside0.mk hi
        replace p29 := eq_true p29
        replace hi := eq_true hi
        obtain ⟨Aw, cw, ew⟩ := Kd.R_slice HW.out
        subst ew
        obtain ⟨g6, c6, e6, hg6⟩ := Kd.R_form HT.out (by have := HI.out; have := HK.out; rw [List.length_append, List.length_replicate]; omega)
        have hlen6 : (places ++ List.replicate (l0.length - i.toNat) (0 : Int)).length = l0.length := by have := HI.out; have := HK.out; rw [List.length_append, List.length_replicate]; omega
        rw [hlen6] at e6
        subst e6
        clear hdrop hx0 hs hk9
        have hwr : IntKind.u64.wrap (words.length : Int) = (words.length : Int) := by have := HK.out; have := LM.out.1; simp [IntKind.wrap, IntKind.bits, IntKind.signed]; omega
        have hwi : wrap64 (i + 1) = i + 1 := by have := HK.out; have := LM.out.1; unfold wrap64; omega
        have hfin : ∀ x : Int, (places ++ List.replicate (l0.length - i.toNat) (0 : Int)).set i.toNat x = (places ++ [x]) ++ List.replicate (l0.length - (i + 1).toNat) (0 : Int) := fun x => by
          have hk := HK.out
          have hi2 := HI.out
          rw [List.set_append_right _ _ (by omega), show i.toNat - places.length = 0 by omega, show l0.length - i.toNat = (l0.length - (i + 1).toNat) + 1 by omega, List.replicate_succ, List.set_cons_zero, List.append_assoc]
          rfl
        have hi1 : (i + 1).toNat = i.toNat + 1 := by have := HK.out; omega
        have HF := Aside0.mk hfin
        clear hfin
        cases hw : wordAt s words 0 with
        | some k =>
          rw [hw] at hG
          have H' := Aside0.mk hG
          have hhas : Maps.has D (.string s.data.toList) = true := by have := HD.out.has_ s; rw [hw] at this; exact this
          have HAT := Aside0.mk (HD.out.at_ s k hw)
          clear hG hw
          have hc6 := (Kd.R_celln (0 : Int) HT.out i (of_eq_true p29) (of_eq_true hi)).1
          have hf6 := (Kd.R_celln (0 : Int) HT.out i (of_eq_true p29) (of_eq_true hi)).2
          go_wp2_with (first | (at_lookup; refine wpList_lookup_own_ok_int _ rfl _ _ 111 rfl 9 51 .u64 (Maps.string_keyed Try.underlying9) Try.underlying111 Try.underlying51 (zero51 _) w.heap.size n D rfl HM.out _ _ rfl HKEY.out ?_; intro c hat hwc; have HC := Aside0.mk (show c = (k : Int) from by have h1 := hat.symm.trans HAT.out; injection h1 with h1; injection h1); clear hat hwc))
          go_roundg k1
          case measure => have := HK.out; omega
          case rel =>
            have hk := HK.out
            refine ⟨i + 1, n, D, words, places ++ [(k : Int)], (by first | rfl | (simp; done) | (simp [*]; done)), ⟨by have := HI.out; rw [List.length_append]; simp only [List.length_cons, List.length_nil]; omega⟩, ⟨by rw [hi1]; exact H'.out⟩, HD, ⟨World.ownsMap.setCell HM.out (by show w.heap.size ≠ g6; exact fun h_ => HT.out.1 g6 rfl h_.symm) _⟩, ⟨Kd.R_set HW.out hg6.2.2.choose_spec (by decide) _ _⟩, ⟨?_⟩, ⟨below_set HB.out hg6.1⟩⟩
            have h3 := Kd.R_putn HT.out i (k : Int)
            rw [HF.out] at h3
            rw [HC.out]
            exact h3
        | none =>
          rw [hw] at hG
          have H' := Aside0.mk hG
          have HN := Aside0.mk hw
          have hhas : Maps.has D (.string s.data.toList) = false := by have := HD.out.has_ s; rw [hw] at this; exact this
          clear hG hw
          go_wp2_with (first | (at_lookup; refine wpList_lookup_own_ok_int _ rfl _ _ 111 rfl 9 51 .u64 (Maps.string_keyed Try.underlying9) Try.underlying111 Try.underlying51 (zero51 _) w.heap.size n D rfl HM.out _ _ rfl HKEY.out ?_; intro c hat hwc; clear hat hwc) | (at_mapUpdate; refine wpList_mapUpdate_own _ rfl _ _ _ 111 rfl 9 51 (Maps.string_keyed Try.underlying9) Try.underlying111 (plainElem Try.prog 51) w.heap.size n D rfl HM.out (by have := HK.out; have := LM.out.1; have : (1000000000000 : Nat) < maxLen := (by decide); omega) _ _ (.string s.data.toList) rfl rfl HKEY.out (.lit (.int .u64 (words.length : Int))) [] (plainElem_int Try.underlying51 (by have := HK.out; have := LM.out.1; simp [Lit.wf, IntKind.min, IntKind.max, IntKind.bits, IntKind.signed]; omega)) ?_; intro w3 hown hgr; have n0_ := Aside0.mk (Kd.R_grown HW.out hgr (fun k_ hk he_ => hk (Option.some.inj he_))); have n1_ := Aside0.mk (Kd.R_grown HT.out hgr (fun k_ hk he_ => hk (Option.some.inj he_))); have n2_ := Aside0.mk (HB.out.grown hgr (below_size HB.out) (fun k_ hk => by have h_ := Option.some.inj hk; omega)); clear HM HW HT HB; have HM := Aside0.mk hown; have HW := n0_; have HT := n1_; have HB := n2_; clear n0_ n1_ n2_ hown hgr) | ((with_reducible refine gate_builtin (b := .append) (xs := #[.tmp 36, .tmp 38]) rfl ?_); at_builtin; refine Kd.R_append Kd.string (w0 := w) w.heap.size rfl (.tmp 36) (.tmp 38) 35 9 (.string ⟨#[]⟩) 16 rfl Try.underlying35 info9 rfl (by decide) (by decide) (.slice Aw words.length cw) words s [.string s] (fun k_ => k_ ≠ w.heap.size) (fun _ => False) rfl rfl rfl (fun _ hk => hk.elim) (fun k_ hk => by have := World.ownsMap.lt HM.out; omega) HW.out HB.out (below_size HB.out) (by have := HK.out; have := LM.out.1; omega) ?_; intro v4 w4 ho hb hg hat; have n0_ := Aside0.mk (World.ownsMap.kept HM.out hg (fun he_ => HW.out.1 _ he_.symm rfl)); have n1_ := Aside0.mk (Kd.R_over HT.out HW.out (by decide) hg); have n2_ := Aside0.mk hb; clear HM HT HB HW; have HM := n0_; have HT := n1_; have HB := n2_; have HW := Aside0.mk ho; clear n0_ n1_ n2_ ho hb hg hat; have hc6 := (Kd.R_celln (0 : Int) HT.out i (of_eq_true p29) (of_eq_true hi)).1; have hf6 := (Kd.R_celln (0 : Int) HT.out i (of_eq_true p29) (of_eq_true hi)).2))
          go_roundg k1
          case measure => have := HK.out; omega
          case rel =>
            have hk := HK.out
            refine ⟨i + 1, n + 1, _, words ++ [s], places ++ [(words.length : Int)], (by first | rfl | (simp; done) | (simp [*]; done)), ⟨by have := HI.out; rw [List.length_append, List.length_append]; simp only [List.length_cons, List.length_nil]; omega⟩, ⟨by rw [hi1]; exact H'.out⟩, ⟨mapsTo_put HD.out s HN.out⟩, ⟨World.ownsMap.setCell HM.out (by show w.heap.size ≠ g6; exact fun h_ => HT.out.1 g6 rfl h_.symm) _⟩, ⟨?_⟩, ⟨?_⟩, ⟨below_set HB.out hg6.1⟩⟩
            · obtain ⟨cells, hcells⟩ := Kd.R_typed HT.out g6 rfl
              exact Kd.R_set HW.out hcells (by decide) _ _
            · have h3 := Kd.R_putn HT.out i (words.length : Int)
              rw [HF.out] at h3
              exact h3
      · have hib : decide (i < (l0.length : Int)) = false := decide_eq_false hi
        have hk9 := HK.out
        have hG := HG.out
        rw [List.drop_eq_nil_of_le (by omega)] at hG
        have hG2 : (words, places) = (r1, r2) := hG
        injection hG2 with h1 h2
        subst h1
        subst h2
        have hz : l0.length - i.toNat = 0 := by omega
        clear hG HG hi
        go_wp2
        go_ret2
        refine ⟨_, _, rfl, Kd.R_mono HW.out (fun _ _ => trivial), ?_, HB.out⟩
        have := HT.out
        rw [hz] at this
        simpa using Kd.R_mono this (fun _ _ => trivial)
theorem step_unguard {P : Program} {ops : Array Oper} {o : Oper} {a : Act} {w : World} {K : Act → World → Prop} {Q : Exit → Act → World → Prop} {E : Prop} (hw : Region.wanted o (yielded ops a.tmps) = true)
    (h : if Region.wanted { o with guard := none } (yielded ops a.tmps) = true then Oper.wp P { o with guard := none } a w K Q else E) : if Region.wanted o (yielded ops a.tmps) = true then Oper.wp P o a w K Q else E := by
  rw [if_pos hw]
  rw [if_pos (show Region.wanted { o with guard := none } (yielded ops a.tmps) = true by simp [Region.wanted])] at h
  exact h
theorem cut_one (aw : Addr) (n c0 : Nat) (x : Int) (hx : 0 ≤ x) (h1 : x < n) (hc : n ≤ c0) (W : World) : (Instr.slice 35 (.slice (some aw) n c0) (some (.int .u64 x)) (some (.int .u64 (x + 1))) none).run Try.prog W = .ok (.slice (some (aw.add x.toNat)) 1 (c0 - x.toNat)) W := by
  obtain ⟨i0, hi, _, hz1, _⟩ := info_parts info9
  have h := cut_mid (P := Try.prog) 35 9 .u64 .u64 Try.underlying35 hi 1 hz1 (some aw) n c0 x (x + 1) hx (by omega) (by omega) hc W
  rw [if_neg (by omega), show (x + 1).toNat - x.toNat = 1 by omega, Nat.mul_one] at h
  exact h
def dictP (words : List ByteArray) : List Int → List ByteArray → Option (List ByteArray)
  | [], out => some out
  | k :: ks, out => if k ≥ (words.length : Int) then none else dictP words ks (out ++ [rdOf ByteArray.empty words k])
def dict_Pick.f (l0 : List ByteArray) (l1 : List Int) : Option (List ByteArray × Bool) := if l0.length ≤ 1000000000000 ∧ l1.length ≤ 1000000000000 ∧ (∀ x ∈ l1, 0 ≤ x) then (match dictP l0 l1 [] with
  | none => some ([], false)
  | some out => some (out, true)) else none
set_option maxHeartbeats 8000000 in
set_option maxRecDepth 100000 in
theorem dict_Pick.calls (A0 : Option Addr) (c0 : Nat) (l0 : List ByteArray) (A1 : Option Addr) (c1 : Nat) (l1 : List Int) (r1 : List ByteArray) (r2 : Bool) (w : World) (hr0 : Kd.C Kd.string w A0 l0.length l0) (hc0 : l0.length ≤ c0) (hr1 : Kd.C (Kd.int .u64) w A1 l1.length l1) (hc1 : l1.length ≤ c1) (h : dict_Pick.f l0 l1 = some (r1, r2)) :
    Calls Try.prog 67 #[.slice A0 l0.length c0, .slice A1 l1.length c1] w fun e w' => ∃ v0_ : Value, e = .returned (.tuple #[v0_, .bool r2]) ∧ Kd.R Kd.string 9 w' w.heap.size (fun _ => True) v0_ r1 ∧ Below w.heap.size w w' := by
  unfold dict_Pick.f at h
  by_cases hlen : l0.length ≤ 1000000000000 ∧ l1.length ≤ 1000000000000 ∧ (∀ x ∈ l1, 0 ≤ x)
  case neg => rw [if_neg hlen] at h; exact absurd h (by simp)
  rw [if_pos hlen] at h
  have HR0 := Aside0.mk hr0
  have HC0 := Aside0.mk hc0
  have HR1 := Aside0.mk hr1
  have H' := Aside0.mk h
  have LM := Aside0.mk hlen
  obtain ⟨N, hN⟩ : ∃ N, N = l1.length := ⟨_, rfl⟩
  obtain ⟨i0, hi, hz0, hz1, hz2⟩ := info_parts info9
  have hmk : ∀ w, (Instr.makeSlice 35 (.int .i64 (l1.length : Int)) (.int .i64 (l1.length : Int))).run Try.prog w = .ok (.slice (some ⟨w.heap.size, 0, none⟩) N N) (w.alloc (.cells (List.replicate N (Value.string ⟨#[]⟩)).toArray 9)) := fun w => by
    have h := run_make (P := Try.prog) w 35 9 i0 _ Try.underlying35 hi hz0 .i64 .i64 (l1.length : Int) (l1.length : Int) (by omega) (Int.le_refl _) (by have := LM.out.2.1; rw [hz2]; omega) (by have := LM.out.2.1; omega)
    rw [h, hN, hz1, Int.toNat_natCast]
    congr 2
    congr 1
    apply Array.ext
    · simp [madeCells]
    · intro j h1 h2
      simp [madeCells, Value.cells, Nat.mod_one]
  have hszE : (Try.prog.info? 9).map (·.size) = some 1 := by rw [hi]; simp [hz1]
  have HN := Aside0.mk hN
  have HMK := Aside0.mk hmk
  have hwr0 : IntKind.u64.wrap (l0.length : Int) = (l0.length : Int) := by have := LM.out.1; simp [IntKind.wrap, IntKind.bits, IntKind.signed]; omega
  clear hr0 hc0 hr1 hc1 h hlen hmk hN hi hz0 hz1 hz2
  go_enter Try.func67, Try.ntmps67
  go_wp2_with ((with_reducible refine gate_dst (N := 11) rfl ?_); (refine Build.make_event rfl (D := 11) rfl (cs := (List.replicate N (Value.string ⟨#[]⟩)).toArray) (t := 9) N N ?hr ?_); (case hr => (have h_ := HMK.out w); first | (go_simp; done) | (go_simp; rfl) | (go_simp; rw [h_]; rfl)); intro g hg w3 hblk hb; have HBK0 := Aside0.mk hblk; have HB0 := Aside0.mk hb; subst hg; clear hblk hb)
  go_loopg [14] (l1.length + 1) (fun kq v14 w' => ∃ (i : Int) (out : List ByteArray), v14 = .int .i64 i ∧ Aside0 (0 ≤ i ∧ i ≤ l1.length ∧ (kq : Int) + i = l1.length + 1 ∧ out.length = i) ∧ Aside0 ((match dictP l0 (l1.drop i.toNat) out with
    | none => some ([], false)
    | some out => some (out, true)) = some (r1, r2)) ∧ Aside0 (w'.heap[w.heap.size]? = some (.cells (out.map Value.string ++ List.replicate (N - i.toNat) (Value.string ⟨#[]⟩)).toArray 9 (0, 0))) ∧ Aside0 (Below w.heap.size w w'))
  case atStart => exact ⟨0, [], by simp, ⟨by simp⟩, H', ⟨by simpa using HBK0.out⟩, HB0⟩
  case round =>
    clear H' HB0 HBK0
    obtain ⟨i, out, rfl, HK, HG, HBK, HB⟩ := hrel
    cases gk with
    | zero => have := HK.out; exact absurd this (by omega)
    | succ k1 =>
      by_cases hi : i < (l1.length : Int)
      · have hib : decide (i < (l1.length : Int)) = true := decide_eq_true hi
        have hk9 := HK.out
        have hG := HG.out
        clear HG
        obtain ⟨x, hx1⟩ : ∃ x, x = rd l1 i := ⟨_, rfl⟩
        have hdrop : l1.drop i.toNat = x :: l1.drop (i.toNat + 1) := by
          rw [List.drop_eq_getElem_cons (show i.toNat < l1.length by omega), hx1]
          congr 1
          unfold rd
          simp [List.getD_eq_getElem?_getD, show i.toNat < l1.length by omega]
        have hx9 : 0 ≤ x := LM.out.2.2 x (List.mem_of_mem_drop (i := i.toNat) (by rw [hdrop]; exact List.mem_cons_self))
        rw [hdrop] at hG
        unfold dictP at hG
        have p29 : 0 ≤ i := by omega
        obtain ⟨ad, e0, hx0⟩ := Kd.at_int HR1.out i p29 hi
        subst e0
        have hx := (HB.out.cell (World.block_lt_of_cell? w _ hx0)).trans hx0
        rw [← hx1] at hx
        have HI := Aside0.mk hi
        have HX := Aside0.mk hx9
        have hi1 : (i + 1).toNat = i.toNat + 1 := by omega
        have hwi : wrap64 (i + 1) = i + 1 := by have := LM.out.2.1; unfold wrap64; omega
        have q6 : i ≤ (N : Int) := by have := HN.out; omega
        have hne6 := eq_false (show ¬ N = i.toNat by have := HN.out; omega)
        replace q6 := eq_true q6
        replace p29 := eq_true p29
        replace hi := eq_true hi
        clear hdrop hx0 hx1 hx9 hk9
        by_cases c2 : x ≥ (l0.length : Int)
        · rw [if_pos c2] at hG
          have c2b : decide ((l0.length : Int) ≤ x) = true := decide_eq_true c2
          clear c2
          simp only [Option.some.injEq, Prod.mk.injEq] at hG
          obtain ⟨rfl, rfl⟩ := hG
          try go_wp2
          refine start_ (n := 17) (S := fun _ => True) (ds := []) #[false, false, false, false, false, false, false, false, false, false, false, false, false, false, false, false, false] (by kernel_rfl) rfl rfl trivial (fun hHeld => ?_)
          refine pure_ (i := 0) (N := some 19) (v := .int .u64 x) (a' := ?_) #[true, false, false, false, false, false, false, false, false, false, false, false, false, false, false, false, false] rfl rfl (by kernel_rfl) (fun _ _ _ h => h) (Or.inl ⟨by kernel_rfl, fun w' => by go_simp⟩) ?_ ?_
          rotate_left
          · simp only [Act.put, List.setIfInBounds_toArray, List.set_cons_zero, List.set_cons_succ]
            rfl
          refine pure_ (i := 1) (N := some 20) (v := .slice A0 l0.length c0) (a' := ?_) #[true, true, false, false, false, false, false, false, false, false, false, false, false, false, false, false, false] rfl rfl (by kernel_rfl) (fun _ _ _ h => h) (Or.inl ⟨by kernel_rfl, fun w' => by go_simp⟩) ?_ ?_
          rotate_left
          · simp only [Act.put, List.setIfInBounds_toArray, List.set_cons_zero, List.set_cons_succ]
            rfl
          refine pure_ (i := 2) (N := some 21) (v := .int .i64 (l0.length : Int)) (a' := ?_) #[true, true, true, false, false, false, false, false, false, false, false, false, false, false, false, false, false] rfl rfl (by kernel_rfl) (fun _ _ _ h => h) (Or.inl ⟨by kernel_rfl, fun w' => by go_simp⟩) ?_ ?_
          rotate_left
          · simp only [Act.put, List.setIfInBounds_toArray, List.set_cons_zero, List.set_cons_succ]
            rfl
          refine pure_ (i := 3) (N := some 22) (v := .int .u64 (l0.length : Int)) (a' := ?_) #[true, true, true, true, false, false, false, false, false, false, false, false, false, false, false, false, false] rfl rfl (by kernel_rfl) (fun _ _ _ h => h) (Or.inl ⟨by kernel_rfl, fun w' => by go_simp⟩) ?_ ?_
          rotate_left
          · simp only [Act.put, List.setIfInBounds_toArray, List.set_cons_zero, List.set_cons_succ]
            rfl
          refine pure_ (i := 4) (N := some 23) (v := .bool true) (a' := ?_) #[true, true, true, true, true, false, false, false, false, false, false, false, false, false, false, false, false] rfl rfl (by kernel_rfl) (fun _ _ _ h => h) (Or.inl ⟨by kernel_rfl, fun w' => by go_simp⟩) ?_ ?_
          rotate_left
          · simp only [Act.put, List.setIfInBounds_toArray, List.set_cons_zero, List.set_cons_succ]
            rfl
          refine pure_ (i := 5) (N := some 24) (v := .bool true) (a' := ?_) #[true, true, true, true, true, true, false, false, false, false, false, false, false, false, false, false, false] rfl rfl (by kernel_rfl) (fun _ _ _ h => h) (Or.inl ⟨by kernel_rfl, fun w' => by go_simp⟩) ?_ ?_
          rotate_left
          · simp only [Act.put, List.setIfInBounds_toArray, List.set_cons_zero, List.set_cons_succ]
            rfl
          refine pure_ (i := 6) (N := some 25) (v := undef) (a' := ?_) #[true, true, true, true, true, true, true, false, false, false, false, false, false, false, false, false, false] rfl rfl (by kernel_rfl) (fun _ _ _ h => h) (Or.inr ⟨by kernel_rfl, rfl⟩) ?_ ?_
          rotate_left
          · simp only [Act.put, List.setIfInBounds_toArray, List.set_cons_zero, List.set_cons_succ]
            rfl
          refine pure_ (i := 7) (N := some 26) (v := undef) (a' := ?_) #[true, true, true, true, true, true, true, true, false, false, false, false, false, false, false, false, false] rfl rfl (by kernel_rfl) (fun _ _ _ h => h) (Or.inr ⟨by kernel_rfl, rfl⟩) ?_ ?_
          rotate_left
          · simp only [Act.put, List.setIfInBounds_toArray, List.set_cons_zero, List.set_cons_succ]
            rfl
          refine pure_ (i := 8) (N := some 27) (v := undef) (a' := ?_) #[true, true, true, true, true, true, true, true, true, false, false, false, false, false, false, false, false] rfl rfl (by kernel_rfl) (fun _ _ _ h => h) (Or.inr ⟨by kernel_rfl, rfl⟩) ?_ ?_
          rotate_left
          · simp only [Act.put, List.setIfInBounds_toArray, List.set_cons_zero, List.set_cons_succ]
            rfl
          refine pure_ (i := 9) (N := some 28) (v := undef) (a' := ?_) #[true, true, true, true, true, true, true, true, true, true, false, false, false, false, false, false, false] rfl rfl (by kernel_rfl) (fun _ _ _ h => h) (Or.inr ⟨by kernel_rfl, rfl⟩) ?_ ?_
          rotate_left
          · simp only [Act.put, List.setIfInBounds_toArray, List.set_cons_zero, List.set_cons_succ]
            rfl
          refine pure_ (i := 10) (N := some 29) (v := undef) (a' := ?_) #[true, true, true, true, true, true, true, true, true, true, true, false, false, false, false, false, false] rfl rfl (by kernel_rfl) (fun _ _ _ h => h) (Or.inr ⟨by kernel_rfl, rfl⟩) ?_ ?_
          rotate_left
          · simp only [Act.put, List.setIfInBounds_toArray, List.set_cons_zero, List.set_cons_succ]
            rfl
          refine pure_ (i := 11) (N := some 30) (v := undef) (a' := ?_) #[true, true, true, true, true, true, true, true, true, true, true, true, false, false, false, false, false] rfl rfl (by kernel_rfl) (fun _ _ _ h => h) (Or.inr ⟨by kernel_rfl, rfl⟩) ?_ ?_
          rotate_left
          · simp only [Act.put, List.setIfInBounds_toArray, List.set_cons_zero, List.set_cons_succ]
            rfl
          refine pure_ (i := 12) (N := some 31) (v := undef) (a' := ?_) #[true, true, true, true, true, true, true, true, true, true, true, true, true, false, false, false, false] rfl rfl (by kernel_rfl) (fun _ _ _ h => h) (Or.inr ⟨by kernel_rfl, rfl⟩) ?_ ?_
          rotate_left
          · simp only [Act.put, List.setIfInBounds_toArray, List.set_cons_zero, List.set_cons_succ]
            rfl
          refine pure_ (i := 13) (N := some 32) (v := undef) (a' := ?_) #[true, true, true, true, true, true, true, true, true, true, true, true, true, true, false, false, false] rfl rfl (by kernel_rfl) (fun _ _ _ h => h) (Or.inr ⟨by kernel_rfl, rfl⟩) ?_ ?_
          rotate_left
          · simp only [Act.put, List.setIfInBounds_toArray, List.set_cons_zero, List.set_cons_succ]
            rfl
          refine pure_ (i := 14) (N := some 33) (v := undef) (a' := ?_) #[true, true, true, true, true, true, true, true, true, true, true, true, true, true, true, false, false] rfl rfl (by kernel_rfl) (fun _ _ _ h => h) (Or.inr ⟨by kernel_rfl, rfl⟩) ?_ ?_
          rotate_left
          · simp only [Act.put, List.setIfInBounds_toArray, List.set_cons_zero, List.set_cons_succ]
            rfl
          refine pure_ (i := 15) (N := some 34) (v := undef) (a' := ?_) #[true, true, true, true, true, true, true, true, true, true, true, true, true, true, true, true, false] rfl rfl (by kernel_rfl) (fun _ _ _ h => h) (Or.inr ⟨by kernel_rfl, rfl⟩) ?_ ?_
          rotate_left
          · simp only [Act.put, List.setIfInBounds_toArray, List.set_cons_zero, List.set_cons_succ]
            rfl
          refine pure_ (i := 16) (N := some 35) (v := .bool true) (a' := ?_) #[true, true, true, true, true, true, true, true, true, true, true, true, true, true, true, true, true] rfl rfl (by kernel_rfl) (fun _ _ _ h => h) (Or.inl ⟨by kernel_rfl, fun w' => by go_simp⟩) ?_ ?_
          rotate_left
          · simp only [Act.put, List.setIfInBounds_toArray, List.set_cons_zero, List.set_cons_succ]
            rfl
          refine done_ (by kernel_rfl) ?_
          try go_wp2
          go_ret2
          exact ⟨_, rfl, Kd.R_nil _ _ _ _ _, below_drew1 HB.out⟩
        · rw [if_neg c2] at hG
          have c2b : decide ((l0.length : Int) ≤ x) = false := decide_eq_false c2
          have H' := Aside0.mk hG
          have hwx : IntKind.u64.wrap (x + 1) = x + 1 := by have := HX.out; have := LM.out.1; simp [IntKind.wrap, IntKind.bits, IntKind.signed]; omega
          obtain ⟨aw, ew, hw0⟩ := Kd.at_string HR0.out x HX.out (by omega)
          subst ew
          have px := eq_true HX.out
          have px1 := eq_true (show x ≤ x + 1 by omega)
          have px2 := eq_true (show x + 1 ≤ (c0 : Int) by have := HC0.out; omega)
          have px3 := eq_true (show x ≤ (c0 : Int) by have := HC0.out; omega)
          have pne := eq_false (show ¬ c0 = x.toNat by have := HC0.out; have := HX.out; omega)
          have hcut : ∀ W : World, (Instr.slice 35 (.slice (some aw) l0.length c0) (some (.int .u64 x)) (some (.int .u64 (x + 1))) none).run Try.prog W = .ok (.slice (some (aw.add x.toNat)) 1 (c0 - x.toNat)) W := cut_one aw l0.length c0 x HX.out (by omega) HC0.out
          obtain ⟨A13, hA13⟩ : ∃ A, A = aw.add x.toNat := ⟨_, rfl⟩
          obtain ⟨c13, hc13⟩ : ∃ c, c = c0 - x.toNat := ⟨_, rfl⟩
          rw [← hA13, ← hc13] at hcut
          have HA13 := Aside0.mk hA13
          clear c2 hG hA13 hc13
          try go_wp2
          refine start_ (n := 17) (S := fun _ => True) (ds := []) #[false, false, false, false, false, false, false, false, false, false, false, false, false, false, false, false, false] (by kernel_rfl) rfl rfl trivial (fun hHeld => ?_)
          refine pure_ (i := 0) (N := some 19) (v := .int .u64 x) (a' := ?_) #[true, false, false, false, false, false, false, false, false, false, false, false, false, false, false, false, false] rfl rfl (by kernel_rfl) (fun _ _ _ h => h) (Or.inl ⟨by kernel_rfl, fun w' => by go_simp⟩) ?_ ?_
          rotate_left
          · simp only [Act.put, List.setIfInBounds_toArray, List.set_cons_zero, List.set_cons_succ]
            rfl
          refine pure_ (i := 1) (N := some 20) (v := .slice (some aw) l0.length c0) (a' := ?_) #[true, true, false, false, false, false, false, false, false, false, false, false, false, false, false, false, false] rfl rfl (by kernel_rfl) (fun _ _ _ h => h) (Or.inl ⟨by kernel_rfl, fun w' => by go_simp⟩) ?_ ?_
          rotate_left
          · simp only [Act.put, List.setIfInBounds_toArray, List.set_cons_zero, List.set_cons_succ]
            rfl
          refine pure_ (i := 2) (N := some 21) (v := .int .i64 (l0.length : Int)) (a' := ?_) #[true, true, true, false, false, false, false, false, false, false, false, false, false, false, false, false, false] rfl rfl (by kernel_rfl) (fun _ _ _ h => h) (Or.inl ⟨by kernel_rfl, fun w' => by go_simp⟩) ?_ ?_
          rotate_left
          · simp only [Act.put, List.setIfInBounds_toArray, List.set_cons_zero, List.set_cons_succ]
            rfl
          refine pure_ (i := 3) (N := some 22) (v := .int .u64 (l0.length : Int)) (a' := ?_) #[true, true, true, true, false, false, false, false, false, false, false, false, false, false, false, false, false] rfl rfl (by kernel_rfl) (fun _ _ _ h => h) (Or.inl ⟨by kernel_rfl, fun w' => by go_simp⟩) ?_ ?_
          rotate_left
          · simp only [Act.put, List.setIfInBounds_toArray, List.set_cons_zero, List.set_cons_succ]
            rfl
          refine pure_ (i := 4) (N := some 23) (v := .bool false) (a' := ?_) #[true, true, true, true, true, false, false, false, false, false, false, false, false, false, false, false, false] rfl rfl (by kernel_rfl) (fun _ _ _ h => h) (Or.inl ⟨by kernel_rfl, fun w' => by go_simp⟩) ?_ ?_
          rotate_left
          · simp only [Act.put, List.setIfInBounds_toArray, List.set_cons_zero, List.set_cons_succ]
            rfl
          refine pure_ (i := 5) (N := some 24) (v := .bool false) (a' := ?_) #[true, true, true, true, true, true, false, false, false, false, false, false, false, false, false, false, false] rfl rfl (by kernel_rfl) (fun _ _ _ h => h) (Or.inl ⟨by kernel_rfl, fun w' => by go_simp⟩) ?_ ?_
          rotate_left
          · simp only [Act.put, List.setIfInBounds_toArray, List.set_cons_zero, List.set_cons_succ]
            rfl
          refine pure_ (i := 6) (N := some 25) (v := .slice (some ⟨w.heap.size, 0, none⟩) N N) (a' := ?_) #[true, true, true, true, true, true, true, false, false, false, false, false, false, false, false, false, false] rfl rfl (by kernel_rfl) (fun _ _ _ h => h) (Or.inl ⟨by kernel_rfl, fun w' => by go_simp⟩) ?_ ?_
          rotate_left
          · simp only [Act.put, List.setIfInBounds_toArray, List.set_cons_zero, List.set_cons_succ]
            rfl
          refine pure_ (i := 7) (N := some 26) (v := .int .i64 i) (a' := ?_) #[true, true, true, true, true, true, true, true, false, false, false, false, false, false, false, false, false] rfl rfl (by kernel_rfl) (fun _ _ _ h => h) (Or.inl ⟨by kernel_rfl, fun w' => by go_simp⟩) ?_ ?_
          rotate_left
          · simp only [Act.put, List.setIfInBounds_toArray, List.set_cons_zero, List.set_cons_succ]
            rfl
          refine pure_ (i := 8) (N := some 27) (v := .slice (some ⟨w.heap.size, i.toNat, none⟩) (N - i.toNat) (N - i.toNat)) (a' := ?_) #[true, true, true, true, true, true, true, true, true, false, false, false, false, false, false, false, false] rfl rfl (by kernel_rfl) (fun _ _ _ h => h) (Or.inl ⟨by kernel_rfl, fun w' => by go_simp⟩) ?_ ?_
          rotate_left
          · simp only [Act.put, List.setIfInBounds_toArray, List.set_cons_zero, List.set_cons_succ]
            rfl
          refine pure_ (i := 9) (N := some 28) (v := .slice (some aw) l0.length c0) (a' := ?_) #[true, true, true, true, true, true, true, true, true, true, false, false, false, false, false, false, false] rfl rfl (by kernel_rfl) (fun _ _ _ h => h) (Or.inl ⟨by kernel_rfl, fun w' => by go_simp⟩) ?_ ?_
          rotate_left
          · simp only [Act.put, List.setIfInBounds_toArray, List.set_cons_zero, List.set_cons_succ]
            rfl
          refine pure_ (i := 10) (N := some 29) (v := .int .u64 x) (a' := ?_) #[true, true, true, true, true, true, true, true, true, true, true, false, false, false, false, false, false] rfl rfl (by kernel_rfl) (fun _ _ _ h => h) (Or.inl ⟨by kernel_rfl, fun w' => by go_simp⟩) ?_ ?_
          rotate_left
          · simp only [Act.put, List.setIfInBounds_toArray, List.set_cons_zero, List.set_cons_succ]
            rfl
          refine pure_ (i := 11) (N := some 30) (v := .int .u64 x) (a' := ?_) #[true, true, true, true, true, true, true, true, true, true, true, true, false, false, false, false, false] rfl rfl (by kernel_rfl) (fun _ _ _ h => h) (Or.inl ⟨by kernel_rfl, fun w' => by go_simp⟩) ?_ ?_
          rotate_left
          · simp only [Act.put, List.setIfInBounds_toArray, List.set_cons_zero, List.set_cons_succ]
            rfl
          refine pure_ (i := 12) (N := some 31) (v := .int .u64 (x + 1)) (a' := ?_) #[true, true, true, true, true, true, true, true, true, true, true, true, true, false, false, false, false] rfl rfl (by kernel_rfl) (fun _ _ _ h => h) (Or.inl ⟨by kernel_rfl, fun w' => by go_simp⟩) ?_ ?_
          rotate_left
          · simp only [Act.put, List.setIfInBounds_toArray, List.set_cons_zero, List.set_cons_succ]
            rfl
          refine pure_ (i := 13) (N := some 32) (v := .slice (some A13) 1 c13) (a' := ?_) #[true, true, true, true, true, true, true, true, true, true, true, true, true, true, false, false, false] rfl rfl (by kernel_rfl) (fun _ _ _ h => h) (Or.inl ⟨by kernel_rfl, fun w' => by go_simp⟩) ?_ ?_
          rotate_left
          · simp only [Act.put, List.setIfInBounds_toArray, List.set_cons_zero, List.set_cons_succ]
            rfl
          refine one_ (i := 14) (N := some 33) #[true, true, true, true, true, true, true, true, true, true, true, true, true, true, true, false, false] rfl rfl (by kernel_rfl) (by decide) (fun K hK => ?_)
          refine step_unguard (by kernel_rfl) ?_
          refine step_copy_splice rfl (.tmp 27) (.tmp 32) 35 35 rfl 9 Try.underlying35 hszE (some ⟨w.heap.size, i.toNat, none⟩) (some A13) (N - i.toNat) (N - i.toNat) 1 c13 rfl rfl w.heap.size i.toNat (out.map Value.string ++ List.replicate (N - i.toNat) (Value.string ⟨#[]⟩)) 9 (blk_drew HBK.out) [Value.string (rdOf ByteArray.empty l0 x)] ?hl1 (fun _ => ⟨rfl, _, rfl, ?hsrc⟩) ?hfit (fun v hv => by rw [List.mem_singleton.mp hv]; rfl) w.heap.size w (below_drew1 HB.out) (Nat.le_refl _) ?_
          case hl1 => have := HN.out; have := HI.out; have := HK.out; show 1 = Nat.min 1 (N - i.toNat); rw [show ∀ a b, Nat.min a b = min a b from fun _ _ => rfl]; omega
          case hsrc =>
            intro j v hv
            have hj : j = 0 := by have := (List.getElem?_eq_some_iff.mp hv).1; simpa using this
            subst hj
            obtain rfl : Value.string (rdOf ByteArray.empty l0 x) = v := by simpa using hv
            rw [show A13.add 0 = A13 by simp [Addr.add], HA13.out]
            exact ((below_drew1 HB.out).cell (World.block_lt_of_cell? w _ hw0)).trans hw0
          case hfit => have := HN.out; have := HI.out; have := HK.out; simp only [List.length_append, List.length_map, List.length_replicate, List.length_cons, List.length_nil]; omega
          intro w4 hg4 hb4
          refine hK.out _ _ trivial (fun hHeld => ?_)
          clear hK K
          refine norm_ (a' := ?_) ?_ ?_
          rotate_left
          · show Act.put _ (some 33) _ = _
            simp only [Act.put, List.setIfInBounds_toArray, List.set_cons_zero, List.set_cons_succ]
            rfl
          refine pure_ (i := 15) (N := some 34) (v := .bool false) (a' := ?_) #[true, true, true, true, true, true, true, true, true, true, true, true, true, true, true, true, false] rfl rfl (by kernel_rfl) (fun _ _ _ h => h) (Or.inl ⟨by kernel_rfl, fun w' => by go_simp⟩) ?_ ?_
          rotate_left
          · simp only [Act.put, List.setIfInBounds_toArray, List.set_cons_zero, List.set_cons_succ]
            rfl
          refine pure_ (i := 16) (N := some 35) (v := .bool false) (a' := ?_) #[true, true, true, true, true, true, true, true, true, true, true, true, true, true, true, true, true] rfl rfl (by kernel_rfl) (fun _ _ _ h => h) (Or.inl ⟨by kernel_rfl, fun w' => by go_simp⟩) ?_ ?_
          rotate_left
          · simp only [Act.put, List.setIfInBounds_toArray, List.set_cons_zero, List.set_cons_succ]
            rfl
          refine done_ (by kernel_rfl) ?_
          have n0_ := Aside0.mk hg4
          have n1_ := Aside0.mk hb4
          clear HBK HB hg4 hb4
          have HBK := n0_
          have HB := n1_
          clear n0_ n1_
          try go_wp2
          go_roundg k1
          case measure => have := HK.out; omega
          case rel =>
            refine ⟨i + 1, out ++ [rdOf ByteArray.empty l0 x], (by first | rfl | (simp; done) | (simp [*]; done)), ⟨by have := HK.out; have := HI.out; rw [List.length_append]; simp only [List.length_cons, List.length_nil]; omega⟩, ⟨by rw [hi1]; exact H'.out⟩, ⟨Eq.trans HBK.out ?_⟩, HB⟩
            have hk := HK.out
            have hii := HI.out
            have hnn := HN.out
            congr 2
            unfold splice
            have e1 : (out.map Value.string).length = i.toNat := by rw [List.length_map]; omega
            rw [← e1, List.take_left, hi1, List.map_append, ← List.drop_drop, List.drop_left, e1]
            simp only [List.length_cons, List.length_nil, List.map_cons, List.map_nil, List.drop_replicate, List.append_assoc]
            rw [show N - i.toNat - (0 + 1) = N - (i.toNat + 1) by omega]
      · have hib : decide (i < (l1.length : Int)) = false := decide_eq_false hi
        have hk9 := HK.out
        have hG := HG.out
        rw [List.drop_eq_nil_of_le (by omega)] at hG
        have hG2 : some (out, true) = some (r1, r2) := hG
        simp only [Option.some.injEq, Prod.mk.injEq] at hG2
        obtain ⟨rfl, rfl⟩ := hG2
        have hn : N - i.toNat = 0 := by have := HN.out; omega
        have hNo : N = out.length := by have := HN.out; omega
        clear hG HG hi hk9
        go_wp2
        go_ret2
        refine ⟨_, rfl, Kd.R_of_own (enc := Value.string) (h1 := fun _ => rfl) ?_ (fun _ _ => trivial), HB.out⟩
        have hb9 := HBK.out
        rw [hn] at hb9
        simp only [List.replicate_zero, List.append_nil] at hb9
        have hb := LM.out.2.1
        have hNN := HN.out
        refine ⟨by simp [encs], .inr ⟨w.heap.size, N, _, by simp [← hNo], Nat.le_refl _, hb9, by simp [← hNo], by unfold maxLen; omega, by simp [hNo], by simp [encs, hNo, List.take_of_length_le]⟩⟩
def bonsairef04_Same.l0 : Nat → List ByteArray → List ByteArray → Int → Option (Bool)
  | 0, _, _, _ => none
  | k + 1, x0, x1, x5 => if x5 < (x0.length : Int) then (if 0 ≤ x5 then (if x5 < (x1.length : Int) then (if (rdOf ByteArray.empty x0 x5).toList = (rdOf ByteArray.empty x1 x5).toList then (bonsairef04_Same.l0 k x0 x1 (wrap64 (x5 + 1))) else (some false)) else (none)) else (none)) else (some true)
def bonsairef04_Same.f (k : Nat) (l0 : List ByteArray) (l1 : List ByteArray) : Option (Bool) := if (l0.length : Int) = (l1.length : Int) then (bonsairef04_Same.l0 k l0 l1 0) else (some false)
theorem bonsairef04_Same.mono_l : ∀ k, (∀ y0 y1 y2, LeO (bonsairef04_Same.l0 k y0 y1 y2) (bonsairef04_Same.l0 (k + 1) y0 y1 y2))
  | 0 => fun _ _ _ r h => by simp [bonsairef04_Same.l0] at h
  | k + 1 => by
    have ih0 := bonsairef04_Same.mono_l k
    · intro y0 y1 y2
      unfold bonsairef04_Same.l0
      repeat' first
      | (with_reducible exact ih0 _ _ _)
      | (with_reducible exact LeO.refl _)
      | (with_reducible exact LeO.none _)
      | (with_reducible refine LeO.ite ?_ ?_)
      | (with_reducible refine LeO.bind ?_ (fun _ => ?_))
      | exact ih0 _ _ _
      | exact LeO.none _
      | refine LeO.ite ?_ ?_
      | refine LeO.bind ?_ (fun _ => ?_)
theorem bonsairef04_Same.mono : ∀ a0 a1 k, LeO (bonsairef04_Same.f k a0 a1) (bonsairef04_Same.f (k + 1) a0 a1) := by
  intro a0 a1 k
  have ih0 := bonsairef04_Same.mono_l k
  unfold bonsairef04_Same.f
  repeat' first
      | (with_reducible exact ih0 _ _ _)
      | (with_reducible exact LeO.refl _)
      | (with_reducible exact LeO.none _)
      | (with_reducible refine LeO.ite ?_ ?_)
      | (with_reducible refine LeO.bind ?_ (fun _ => ?_))
      | exact ih0 _ _ _
      | exact LeO.none _
      | refine LeO.ite ?_ ?_
      | refine LeO.bind ?_ (fun _ => ?_)
set_option maxHeartbeats 8000000 in
set_option maxRecDepth 100000 in
theorem bonsairef04_Same.calls (k : Nat) (A0 : Option Addr) (c0 : Nat) (l0 : List ByteArray) (A1 : Option Addr) (c1 : Nat) (l1 : List ByteArray) (r : Bool) (w : World) (hr0 : Kd.C Kd.string w A0 l0.length l0) (hc0 : l0.length ≤ c0) (hr1 : Kd.C Kd.string w A1 l1.length l1) (hc1 : l1.length ≤ c1) (h : bonsairef04_Same.f k l0 l1 = some r) :
    Calls Try.prog 69 #[.slice A0 l0.length c0, .slice A1 l1.length c1] w fun e w' => e = .returned (.bool r) ∧ Drawn0 w w' := by
  have HR0 := Aside0.mk hr0
  have HC0 := Aside0.mk hc0
  clear hr0 hc0
  have HR1 := Aside0.mk hr1
  have HC1 := Aside0.mk hc1
  clear hr1 hc1
  have H : (if (l0.length : Int) = (l1.length : Int) then (bonsairef04_Same.l0 k l0 l1 0) else (some false)) = some r := h
  clear h
  by_cases c3 : (l0.length : Int) = (l1.length : Int)
  · rw [if_pos c3] at H
    have c3b0 : ((l0.length : Int) == (l1.length : Int)) = true := beq_iff_eq.mpr c3
    have c3b1 : ((l0.length : Int) != (l1.length : Int)) = false := bne_eq_false_iff_eq.mpr c3
    have c3b2 : (l0.length == l1.length) = true := by first | simpa using c3 | (simp at c3 ⊢; omega)
    clear c3
    have H' := Aside0.mk H
    clear H
    go_enter Try.func69, Try.ntmps69
    go_wp2
    repeat (go_quiet (fail); try go_wp2)
    go_loopg [5] k (fun kq v5 w' => ∃ (x5_1 : Int), v5 = .int .i64 x5_1 ∧ Aside0 (bonsairef04_Same.l0 kq l0 l1 x5_1 = some r) ∧ Aside0 (kq ≤ k) ∧ Drawn0 w w')
    case atStart => exact ⟨(0), (by first | rfl | (simp; done) | (simp [*]; done)), H', ⟨Nat.le_refl _⟩, by repeat (first | exact Drawn0.refl _ | apply Drawn0.step)⟩
    case round =>
      clear H'
      try clear c1
      try clear p2
      try clear c3
      try clear c3b0
      try clear c3b1
      try clear c3b2
      obtain ⟨x5_1, rfl, HA, HK1, ⟨m1, rfl⟩⟩ := hrel
      cases gk with
      | zero => exact absurd HA.out (by simp [bonsairef04_Same.l0])
      | succ k1 =>
        have H := HA.out
        clear HA
        simp only [bonsairef04_Same.l0] at H
        by_cases c4 : x5_1 < (l0.length : Int)
        · rw [if_pos c4] at H
          have c4b0 : decide (x5_1 < (l0.length : Int)) = true := decide_eq_true c4
          clear c4
          by_cases c5 : 0 ≤ x5_1
          · rw [if_pos c5] at H
            have c5b0 : decide (0 ≤ x5_1) = true := decide_eq_true c5
            clear c5
            by_cases c6 : x5_1 < (l1.length : Int)
            · rw [if_pos c6] at H
              have c6b0 : decide (x5_1 < (l1.length : Int)) = true := decide_eq_true c6
              clear c6
              by_cases c7 : (rdOf ByteArray.empty l0 x5_1).toList = (rdOf ByteArray.empty l1 x5_1).toList
              · rw [if_pos c7] at H
                have c7b0 : ((rdOf ByteArray.empty l0 x5_1).toList == (rdOf ByteArray.empty l1 x5_1).toList) = true := beq_iff_eq.mpr c7
                have c7b1 : ((rdOf ByteArray.empty l0 x5_1).toList != (rdOf ByteArray.empty l1 x5_1).toList) = false := bne_eq_false_iff_eq.mpr c7
                clear c7
                have H' := Aside0.mk H
                clear H
                have p779 : 0 ≤ (x5_1 : Int) := of_decide_eq_true (by first | (with_reducible assumption) | assumption)
                have q779 : x5_1 < (l0.length : Int) := of_decide_eq_true (by first | (with_reducible assumption) | assumption)
                obtain ⟨ad779, e779, hx779_0⟩ := Kd.at_string HR0.out x5_1 p779 q779
                cases e779
                replace p779 := eq_true p779
                replace q779 := eq_true q779
                have p780 : 0 ≤ (x5_1 : Int) := of_decide_eq_true (by first | (with_reducible assumption) | assumption)
                have q780 : x5_1 < (l1.length : Int) := of_decide_eq_true (by first | (with_reducible assumption) | assumption)
                obtain ⟨ad780, e780, hx780_0⟩ := Kd.at_string HR1.out x5_1 p780 q780
                cases e780
                replace p780 := eq_true p780
                replace q780 := eq_true q780
                go_wp2
                repeat (go_quiet (fail); try go_wp2)
                go_roundg k1
                case measure => have := HK1.out; omega
                case rel => exact ⟨(wrap64 (x5_1 + 1)), (by first | rfl | (simp; done) | (simp [*]; done)), H', ⟨by have := HK1.out; omega⟩, by repeat (first | exact Drawn0.refl _ | apply Drawn0.step)⟩
              · rw [if_neg c7] at H
                have c7b0 : ((rdOf ByteArray.empty l0 x5_1).toList == (rdOf ByteArray.empty l1 x5_1).toList) = false := beq_eq_false_iff_ne.mpr c7
                have c7b1 : ((rdOf ByteArray.empty l0 x5_1).toList != (rdOf ByteArray.empty l1 x5_1).toList) = true := bne_iff_ne.mpr c7
                obtain rfl := Option.some.inj H
                have p779 : 0 ≤ (x5_1 : Int) := of_decide_eq_true (by first | (with_reducible assumption) | assumption)
                have q779 : x5_1 < (l0.length : Int) := of_decide_eq_true (by first | (with_reducible assumption) | assumption)
                obtain ⟨ad779, e779, hx779_0⟩ := Kd.at_string HR0.out x5_1 p779 q779
                cases e779
                replace p779 := eq_true p779
                replace q779 := eq_true q779
                have p780 : 0 ≤ (x5_1 : Int) := of_decide_eq_true (by first | (with_reducible assumption) | assumption)
                have q780 : x5_1 < (l1.length : Int) := of_decide_eq_true (by first | (with_reducible assumption) | assumption)
                obtain ⟨ad780, e780, hx780_0⟩ := Kd.at_string HR1.out x5_1 p780 q780
                cases e780
                replace p780 := eq_true p780
                replace q780 := eq_true q780
                go_wp2
                repeat (go_quiet (fail); try go_wp2)
                go_ret
                exact ⟨by first | rfl | (simp; done) | (simp [*]; done), by repeat (first | exact Drawn0.refl _ | apply Drawn0.step)⟩
            · rw [if_neg c6] at H
              exact absurd H (by simp)
          · rw [if_neg c5] at H
            exact absurd H (by simp)
        · rw [if_neg c4] at H
          have c4b0 : decide (x5_1 < (l0.length : Int)) = false := decide_eq_false c4
          clear c4
          obtain rfl := Option.some.inj H
          go_wp2
          repeat (go_quiet (fail); try go_wp2)
          go_ret
          exact ⟨by first | rfl | (simp; done) | (simp [*]; done), by repeat (first | exact Drawn0.refl _ | apply Drawn0.step)⟩
  · rw [if_neg c3] at H
    have c3b0 : ((l0.length : Int) == (l1.length : Int)) = false := beq_eq_false_iff_ne.mpr c3
    have c3b1 : ((l0.length : Int) != (l1.length : Int)) = true := bne_iff_ne.mpr c3
    have c3b2 : (l0.length == l1.length) = false := by first | simpa using c3 | (simp at c3 ⊢; omega)
    obtain rfl := Option.some.inj H
    go_enter Try.func69, Try.ntmps69
    go_wp2
    repeat (go_quiet (fail); try go_wp2)
    go_ret
    exact ⟨by first | rfl | (simp; done) | (simp [*]; done), by repeat (first | exact Drawn0.refl _ | apply Drawn0.step)⟩
def dict_Encode.g (k : Nat) : List ByteArray → ByteArray → Option ByteArray
  | [], acc => some acc
  | x :: xs, acc => (word_Put.f k x).bind fun a => if acc.size + a.size ≤ 140737488355328 then dict_Encode.g k xs (acc ++ a) else none
def dict_Encode.f (k : Nat) (l0 : List ByteArray) : Option ByteArray := (dict_Words.f l0).bind fun p => if p.1.length < 4611686018427387904 then (pack_Put.f k (IntKind.u64.wrap (p.1.length : Int))).bind fun a => if a.size ≤ 140737488355328 then (dict_Encode.g k p.1 a).bind fun acc => (runs_Encode.f k p.2).bind fun e => if acc.size + e.size ≤ 140737488355328 then some (acc ++ e) else none else none else none
theorem dict_Encode.mono : ∀ a0 k, LeO (dict_Encode.f k a0) (dict_Encode.f (k + 1) a0) := by
  have hg : ∀ (k : Nat) (l : List ByteArray) (acc : ByteArray), LeO (dict_Encode.g k l acc) (dict_Encode.g (k + 1) l acc) := by
    intro k l
    induction l with
    | nil => intro acc; exact LeO.refl _
    | cons x xs ih =>
      intro acc
      unfold dict_Encode.g
      refine LeO.bind (word_Put.mono _ _) fun a => LeO.ite (ih _) (LeO.refl _)
  intro a0 k
  exact LeO.bind (LeO.refl _) fun p => LeO.ite (LeO.bind (pack_Put.mono _ _) fun a => LeO.ite (LeO.bind (hg k _ _) fun acc => LeO.bind (runs_Encode.mono _ _) fun e => LeO.refl _) (LeO.refl _)) (LeO.refl _)
set_option maxHeartbeats 8000000 in
set_option maxRecDepth 100000 in
theorem dict_Encode.calls (k : Nat) (A0 : Option Addr) (c0 : Nat) (l0 : List ByteArray) (r : ByteArray) (w : World) (hr0 : Kd.C Kd.string w A0 l0.length l0) (hc0 : l0.length ≤ c0) (h : dict_Encode.f k l0 = some r) :
    Calls Try.prog 70 #[.slice A0 l0.length c0] w fun e w' => e = .returned (.string r) ∧ Below w.heap.size w w' := by
  have H := h
  clear h
  unfold dict_Encode.f at H
  obtain ⟨⟨t, q⟩, A20, H⟩ := Option.bind_eq_some_iff.mp H
  have A2 := Aside0.mk A20
  by_cases hlen : t.length < 4611686018427387904
  case neg => rw [if_neg hlen] at H; exact absurd H (by simp)
  rw [if_pos hlen] at H
  obtain ⟨a, A30, H⟩ := Option.bind_eq_some_iff.mp H
  have A3 := Aside0.mk A30
  by_cases haz : a.size ≤ 140737488355328
  case neg => rw [if_neg haz] at H; exact absurd H (by simp)
  rw [if_pos haz] at H
  obtain ⟨acc0, A40, H⟩ := Option.bind_eq_some_iff.mp H
  obtain ⟨en, A50, H⟩ := Option.bind_eq_some_iff.mp H
  by_cases hez : acc0.size + en.size ≤ 140737488355328
  case neg => rw [if_neg hez] at H; exact absurd H (by simp)
  rw [if_pos hez] at H
  obtain rfl := Option.some.inj H
  have A4 := Aside0.mk A40
  have A5 := Aside0.mk A50
  have LM := Aside0.mk hlen
  have LA := Aside0.mk haz
  have LE := Aside0.mk hez
  have HR0 := Aside0.mk hr0
  have HC0 := Aside0.mk hc0
  clear A20 A30 A40 A50 H hr0 hc0 hlen haz hez
  go_enter Try.func70, Try.ntmps70
  go_wp2_with (first | (go_at_call 65; (with_reducible refine (dict_Words.calls _ _ l0 t q _ HR0.out HC0.out A2.out).mono ?_); rintro e w3 ⟨v0, v1, rfl, ho0, ho1, hb⟩; obtain ⟨Ao4, co4, eo4⟩ := Kd.R_slice ho0; obtain ⟨Ao5, co5, eo5⟩ := Kd.R_slice ho1; subst eo4; subst eo5; have HO := Aside0.mk ho0; have HQ := Aside0.mk ho1; have HB := Aside0.mk hb; clear ho0 ho1 hb) | (go_at_call 78; (with_reducible refine (pack_Put.calls k _ a _ A3.out).mono ?_); rintro e w5 ⟨rfl, hb⟩; have HBl := Aside0.mk ((Build.Bld.fresh w3).below hb); have n0_ := Aside0.mk (Kd.R_below (Kd.R_alloc HO.out _) hb); have n1_ := Aside0.mk (Kd.R_below (Kd.R_alloc HQ.out _) hb); have n2_ := Aside0.mk (below_step (below_alloc HB.out _) hb); have HGE := Aside0.mk (below_size HB.out); have HGS := Aside0.mk (show w3.heap.size ≤ w5.heap.size from Nat.le_trans (by show _ ≤ (w3.heap.push _).size; simp) hb.size); clear HO HQ HB hb; have HO := n0_; have HQ := n1_; have HB := n2_; clear n0_ n1_ n2_) | (go_at_call 90; (with_reducible refine (Build.write w3.heap.size w3.heap.size ByteArray.empty a _ HBl.out (by have := LA.out; have h_ : ByteArray.empty.size = 0 := rfl; omega) HGS.out).mono ?_); rintro e w6 ⟨rfl, hbl, hb, hk⟩; have n0_ := Aside0.mk (Build.R_kept HO.out hk HBl.out.block (by decide)); have n1_ := Aside0.mk (Build.R_kept HQ.out hk HBl.out.block (by decide)); have n2_ := Aside0.mk (below_weaken HB.out HGE.out hb); have n3_ := Aside0.mk (Nat.le_trans HGS.out hb.size); clear HBl HO HQ HB HGS hb hk; have HBl := Aside0.mk hbl; have HO := n0_; have HQ := n1_; have HB := n2_; have HGS := n3_; clear n0_ n1_ n2_ n3_ hbl))
  generalize hbm : w3.heap.size = bm at HBl HGE HGS ⊢
  clear hbm
  have HE := Aside0.mk (show ByteArray.empty ++ a = a by apply ByteArray.ext; simp)
  go_loopg [20] (t.length + 1) (fun kq v9 w' => ∃ (x9 : Int) (acc : ByteArray), v9 = .int .i64 x9 ∧ Aside0 (0 ≤ x9 ∧ x9 ≤ t.length ∧ (kq : Int) + x9 = t.length + 1) ∧ Aside0 (dict_Encode.g k (t.drop x9.toNat) acc = some acc0) ∧ Aside0 (Build.Bld bm bm acc w') ∧ Aside0 (Kd.R Kd.string 9 w' w.heap.size (fun _ => True) (.slice Ao4 t.length co4) t) ∧ Aside0 (Kd.R (Kd.int .u64) 51 w' w.heap.size (fun _ => True) (.slice Ao5 q.length co5) q) ∧ Aside0 (Below w.heap.size w w') ∧ Aside0 (bm ≤ w'.heap.size))
  case atStart => exact ⟨0, a, by simp, ⟨by omega⟩, A4, ⟨by rw [← HE.out]; exact HBl.out⟩, HO, HQ, HB, HGS⟩
  case round =>
    clear HO HQ HB HBl HGS
    obtain ⟨x9, acc, rfl, HK, HG, HBl, HO, HQ, HB, HGS⟩ := hrel
    cases gk with
    | zero => have := HK.out; exact absurd this (by omega)
    | succ k1 =>
      by_cases hi : x9 < (t.length : Int)
      · have c5b0 : decide (x9 < (t.length : Int)) = true := decide_eq_true (by omega)
        have hk9 := HK.out
        have hdrop : t.drop x9.toNat = rdOf ByteArray.empty t x9 :: t.drop (x9.toNat + 1) := by
          rw [List.drop_eq_getElem_cons (show x9.toNat < t.length by omega)]
          congr 1
          unfold rdOf
          simp [List.getD_eq_getElem?_getD, show x9.toNat < t.length by omega]
        have hG := HG.out
        clear HG
        rw [hdrop] at hG
        unfold dict_Encode.g at hG
        obtain ⟨b, A60, hG⟩ := Option.bind_eq_some_iff.mp hG
        by_cases hz : acc.size + b.size ≤ 140737488355328
        · rw [if_pos hz] at hG
          have H' := Aside0.mk hG
          have A6 := Aside0.mk A60
          have LZ := Aside0.mk hz
          clear hG A60 hdrop hz
          have p290 : 0 ≤ x9 := by omega
          have q290 : x9 < (t.length : Int) := by omega
          obtain ⟨ad290, e290, hx290_0⟩ := Kd.at_string (Kd.R_reads' HO.out).2.2 x9 p290 q290
          cases e290
          have hi0 := Aside0.mk hi
          clear hi hk9
          replace p290 := eq_true p290
          replace q290 := eq_true q290
          go_wp2_with (first | (go_at_call 33; (with_reducible refine (word_Put.calls k _ b _ A6.out).mono ?_); rintro e w5 ⟨rfl, hb⟩; have n0_ := Aside0.mk (HBl.out.below hb); have n1_ := Aside0.mk (Kd.R_below HO.out hb); have n2_ := Aside0.mk (Kd.R_below HQ.out hb); have n3_ := Aside0.mk (below_step HB.out hb); have n4_ := Aside0.mk (Nat.le_trans HGS.out hb.size); clear HBl HO HQ HB HGS hb hx290_0; have HBl := n0_; have HO := n1_; have HQ := n2_; have HB := n3_; have HGS := n4_; clear n0_ n1_ n2_ n3_ n4_) | (go_at_call 90; (with_reducible refine (Build.write bm bm acc b _ HBl.out LZ.out HGS.out).mono ?_); rintro e w6 ⟨rfl, hbl, hb, hk⟩; have n0_ := Aside0.mk (Build.R_kept HO.out hk HBl.out.block (by decide)); have n1_ := Aside0.mk (Build.R_kept HQ.out hk HBl.out.block (by decide)); have n2_ := Aside0.mk (below_weaken HB.out HGE.out hb); have n3_ := Aside0.mk (Nat.le_trans HGS.out hb.size); clear HBl HO HQ HB HGS hb hk; have HBl := Aside0.mk hbl; have HO := n0_; have HQ := n1_; have HB := n2_; have HGS := n3_; clear n0_ n1_ n2_ n3_ hbl))
          go_roundg k1
          case measure => have := HK.out; omega
          case rel => exact ⟨wrap64 (x9 + 1), acc ++ b, (by first | rfl | (simp; done) | (simp [*]; done)), ⟨by have := HK.out; have := hi0.out; have := LM.out; unfold wrap64; omega⟩, ⟨by rw [show (wrap64 (x9 + 1)).toNat = x9.toNat + 1 by have := HK.out; have := LM.out; unfold wrap64; omega]; exact H'.out⟩, HBl, HO, HQ, HB, HGS⟩
        · rw [if_neg hz] at hG
          exact absurd hG (by simp)
      · have c5b0 : decide (x9 < (t.length : Int)) = false := decide_eq_false hi
        have hk9 := HK.out
        have hG := HG.out
        rw [List.drop_eq_nil_of_le (by omega)] at hG
        unfold dict_Encode.g at hG
        obtain rfl := Option.some.inj hG
        clear hG HG hi hk9
        go_wp2_with (first | (go_at_call 44; (with_reducible refine (runs_Encode.calls k _ _ q en _ (Kd.R_reads' HQ.out).2.2 (Kd.R_reads' HQ.out).2.1 A5.out).mono ?_); rintro e w5 ⟨rfl, hb⟩; have n0_ := Aside0.mk (HBl.out.below hb); have n3_ := Aside0.mk (below_step HB.out hb); have n4_ := Aside0.mk (Nat.le_trans HGS.out hb.size); clear HBl HO HQ HB HGS hb; have HBl := n0_; have HB := n3_; have HGS := n4_; clear n0_ n3_ n4_) | (go_at_call 90; (with_reducible refine (Build.write bm bm acc en _ HBl.out LE.out HGS.out).mono ?_); rintro e w6 ⟨rfl, hbl, hb, hk⟩; have n2_ := Aside0.mk (below_weaken HB.out HGE.out hb); have n3_ := Aside0.mk (Nat.le_trans HGS.out hb.size); clear HBl HB HGS hb hk; have HBl := Aside0.mk hbl; have HB := n2_; have HGS := n3_; clear n2_ n3_ hbl) | (go_at_call 91; (with_reducible refine (Build.string bm bm (acc ++ en) _ HBl.out HGS.out).mono ?_); rintro e w9 ⟨rfl, hb, hk⟩; have n2_ := Aside0.mk (below_weaken HB.out HGE.out hb); clear HB; have HB := n2_; clear n2_))
        go_ret
        exact ⟨rfl, HB.out⟩
end Go.Proofs.Ytbgjoiccehiglaa.Print
end
