/- A list, of at most 200 numbers, has one run more than places at which it changes, and no more runs than numbers; turned about, it has the same ones, turned about; together they are as long as it. -/
import Derived.Test.YtbgjoiccehiglaaRows
import Derived.WalkKit
import Derived.ProofKit
import Derived.OpenShut
import Derived.ShutString
import Derived.ChangeOld
import Derived.Below
import Derived.SizedLaws
import Derived.Test.YtbgjoiccehiglaaCRunsFew2
section
namespace Go.Proofs.Ytbgjoiccehiglaa.LibV
open Go.RowKit Go.Proofs.Ytbgjoiccehiglaa.Print Go.Proofs.YtbgjoiccehiglaaW.PrintWords Go.Proofs.YtbgjoiccehiglaaW.PrintLast Go.Proofs.YtbgjoiccehiglaaW.PrintMore Go.Proofs.Ytbgjoiccehiglaa.LibU
theorem w64 {n : Int} (h0 : -9223372036854775808 ≤ n) (h1 : n ≤ 9223372036854775807) : wrap64 n = n := by unfold wrap64; omega
def cv (r : S98) : S53 := ⟨r.f0, r.f1⟩
theorem rd98_last (a : List S98) (r : S98) : rd_T98 (a ++ [r]) (a.length : Int) = r := by simp [rd_T98]
theorem set_last {α : Type} (a : List α) (r s : α) : (a ++ [r]).set a.length s = a ++ [s] := by simp
theorem drop_rd (l : List Int) (i : Int) (h0 : 0 ≤ i) (h : i < l.length) : l.drop i.toNat = rd l i :: l.drop (i + 1).toNat := by
  rw [List.drop_eq_getElem_cons (show i.toNat < l.length by omega), show (i + 1).toNat = i.toNat + 1 by omega]
  congr 1
  unfold rd
  simp [List.getD_eq_getElem?_getD, show i.toNat < l.length by omega]
theorem of_l (l : List Int) (hl : (l.length : Int) ≤ 1000000000000) : ∀ (d k : Nat) (acc : List S98) (i : Int), 0 ≤ i → i + d = l.length → d + 1 ≤ k → (acc.length : Int) ≤ i → (∀ r ∈ acc, 0 ≤ r.f1 ∧ r.f1 ≤ i) →
    ∃ acc', runs_of_uint64.l0 k acc l (l.length : Int) i = some acc' ∧ acc'.map cv = (l.drop i.toNat).foldl addR (acc.map cv)
  | 0, k, acc, i, h0, hd, hk, hs, hc => by
    obtain ⟨k, rfl⟩ : ∃ k', k = k' + 1 := ⟨k - 1, by omega⟩
    refine ⟨acc, ?_, ?_⟩
    · unfold runs_of_uint64.l0
      rw [if_neg (by omega)]
    · rw [List.drop_eq_nil_of_le (by omega)]
      rfl
  | d + 1, k, acc, i, h0, hd, hk, hs, hc => by
    obtain ⟨k, rfl⟩ : ∃ k', k = k' + 1 := ⟨k - 1, by omega⟩
    have hi : i < (l.length : Int) := by omega
    rw [drop_rd l i h0 hi]
    unfold runs_of_uint64.l0
    rw [if_pos hi, if_pos h0, if_pos hi]
    rw [show wrap64 (i + 1) = i + 1 from w64 (by omega) (by omega)]
    rcases snoc_cases acc with rfl | ⟨a, r, rfl⟩
    · rw [if_neg (by simp [w64])]
      rw [if_pos (by simp)]
      obtain ⟨acc', h1, h2⟩ := of_l l hl d k ([] ++ [(⟨rd l i, 1⟩ : S98)]) (i + 1) (by omega) (by omega) (by omega) (by simp; omega) (fun r hr => by simp at hr; subst hr; simp; omega)
      exact ⟨acc', h1, h2⟩
    · have hlen : ((a ++ [r]).length : Int) = (a.length : Int) + 1 := by simp
      have hw : wrap64 (((a ++ [r]).length : Int) - 1) = (a.length : Int) := by rw [hlen, w64 (by omega) (by omega)]; omega
      rw [hw, if_pos (by omega), if_pos (by omega), if_pos (by omega), rd98_last, show ((a.length : Int)).toNat = a.length from rfl, set_last]
      have hr := hc r (by simp)
      rw [show wrap64 (r.f1 + 1) = r.f1 + 1 from w64 (by omega) (by omega)]
      rw [List.map_append, List.foldl_cons]
      show ∃ acc', _ ∧ _ = List.foldl addR (addR (a.map cv ++ [cv r]) (rd l i)) _
      rw [addR_snoc]
      by_cases he : r.f0 = rd l i
      · rw [if_pos he, if_pos (show (cv r).f0 = rd l i from he)]
        obtain ⟨acc', h1, h2⟩ := of_l l hl d k (a ++ [(⟨r.f0, r.f1 + 1⟩ : S98)]) (i + 1) (by omega) (by omega) (by omega) (by simp at hs ⊢; omega)
          (fun q hq => by
            rcases List.mem_append.mp hq with h | h
            · have := hc q (by simp [h]); omega
            · simp at h; subst h; simp only; omega)
        refine ⟨acc', h1, h2.trans ?_⟩
        rw [List.map_append]
        rfl
      · rw [if_neg he, if_neg (show ¬ (cv r).f0 = rd l i from he), if_pos (by simp at hs; simp; omega)]
        obtain ⟨acc', h1, h2⟩ := of_l l hl d k (a ++ [r] ++ [(⟨rd l i, 1⟩ : S98)]) (i + 1) (by omega) (by omega) (by omega) (by simp at hs ⊢; omega)
          (fun q hq => by
            rcases List.mem_append.mp hq with h | h
            · have := hc q h; omega
            · simp at h; subst h; simp only; omega)
        refine ⟨acc', h1, h2.trans ?_⟩
        rw [List.map_append, List.map_append]
        rfl
theorem of_is (l : List Int) (hl : (l.length : Int) ≤ 1000000000000) (k : Nat) (hk : l.length + 1 ≤ k) : ∃ r98, runs_of_uint64.f k l = some r98 ∧ r98.map cv = runs l := by
  obtain ⟨acc', h1, h2⟩ := of_l l hl l.length k [] 0 (by omega) (by omega) hk (by simp) (by simp)
  exact ⟨acc', h1, h2⟩
end Go.Proofs.Ytbgjoiccehiglaa.LibV
end
section
namespace Go.Proofs.Ytbgjoiccehiglaa.LibA
open Go.RowKit Go.Proofs.Ytbgjoiccehiglaa.Print Go.Proofs.YtbgjoiccehiglaaW.PrintWords Go.Proofs.YtbgjoiccehiglaaW.PrintLast
def SgAt (s : ByteArray) (i m : Int) : Prop :=
  (sgH (bt s i)).2.2.2 = true ∧ m = 1 + (sgH (bt s i)).1 ∧ i + m ≤ s.size ∧ sgR s (sgH (bt s i)).1.toNat (i + 1) (sgH (bt s i)).2.1 (sgH (bt s i)).2.2.1 = true
theorem SgAt.pos {s : ByteArray} {i m : Int} (h : SgAt s i m) : 1 ≤ m ∧ m ≤ 4 ∧ i + m ≤ s.size := by
  have := sgH_rest (bt s i)
  obtain ⟨_, rfl, h3, _⟩ := h
  omega
theorem SgAt.det {s : ByteArray} {i m m' : Int} (h : SgAt s i m) (h' : SgAt s i m') : m = m' := by
  rw [h.2.1, h'.2.1]
inductive Ch (s : ByteArray) : Nat → Int → Int → Prop
  | nil (i : Int) : Ch s 0 i i
  | cons {n : Nat} {i m j : Int} (h : SgAt s i m) (t : Ch s n (i + m) j) : Ch s (n + 1) i j
theorem Ch.size {s : ByteArray} {n : Nat} {i j : Int} (h : Ch s n i j) (hi : i ≤ s.size) : j ≤ s.size := by
  induction h with
  | nil => exact hi
  | cons h t ih => exact ih h.pos.2.2
theorem Ch.snoc {s : ByteArray} {n : Nat} {i j m : Int} (h : Ch s n i j) (hm : SgAt s j m) : Ch s (n + 1) i (j + m) := by
  induction h with
  | nil => exact .cons hm (.nil _)
  | cons h t ih => exact .cons h (ih hm)
theorem Ch.trans {s : ByteArray} {n n' : Nat} {i j k : Int} (h : Ch s n i j) (h' : Ch s n' j k) : Ch s (n + n') i k := by
  induction h with
  | nil => simpa using h'
  | cons h t ih => rw [show ∀ a b : Nat, a + 1 + b = (a + b) + 1 by omega]; exact .cons h (ih h')
theorem Ch.split {s : ByteArray} {n n' : Nat} {i j j' : Int} (h : Ch s n i j) (h' : Ch s n' i j') : (∃ c, n' = n + c ∧ Ch s c j j') ∨ (∃ c m, SgAt s j' m ∧ Ch s c (j' + m) j) := by
  induction h generalizing n' with
  | nil => exact .inl ⟨n', by omega, h'⟩
  | cons h t ih =>
    cases h' with
    | nil => exact .inr ⟨_, _, h, t⟩
    | cons h2 t2 =>
      have := h.det h2
      subst this
      rcases ih t2 with ⟨c, hc, hch⟩ | r
      · exact .inl ⟨c, by omega, hch⟩
      · exact .inr r
def Vld (s : ByteArray) : Prop := ∃ c, Ch s c 0 s.size
end Go.Proofs.Ytbgjoiccehiglaa.LibA
end
namespace Go.Proofs.Ytbgjoiccehiglaa.Print
end Go.Proofs.Ytbgjoiccehiglaa.Print
namespace Go.Proofs.Ytbgjoiccehiglaa.Print
end Go.Proofs.Ytbgjoiccehiglaa.Print
section
namespace Go.Proofs.Ytbgjoiccehiglaa.LibB
open Go.RowKit Go.Proofs.Ytbgjoiccehiglaa.Print Go.Proofs.YtbgjoiccehiglaaW.PrintWords Go.Proofs.YtbgjoiccehiglaaW.PrintLast Go.Proofs.YtbgjoiccehiglaaW.PrintMore Go.Proofs.Ytbgjoiccehiglaa.LibA
theorem w64 {n : Int} (h0 : -9223372036854775808 ≤ n) (h1 : n ≤ 9223372036854775807) : wrap64 n = n := by unfold wrap64; omega
noncomputable instance (s : ByteArray) : Decidable (Vld s) := Classical.propDecidable _
end Go.Proofs.Ytbgjoiccehiglaa.LibB
end
section
namespace Go.Proofs.Ytbgjoiccehiglaa.LibC
open Go.RowKit Go.Proofs.Ytbgjoiccehiglaa.Print Go.Proofs.YtbgjoiccehiglaaW.PrintWords Go.Proofs.YtbgjoiccehiglaaW.PrintLast Go.Proofs.YtbgjoiccehiglaaW.PrintMore Go.Proofs.Ytbgjoiccehiglaa.LibA Go.Proofs.Ytbgjoiccehiglaa.LibB
def putL : Nat → Int → List Int
  | 0, x => [x]
  | d + 1, x => if x ≥ 128 then (x % 128 + 128) :: putL d (x / 128) else [x]
end Go.Proofs.Ytbgjoiccehiglaa.LibC
end
namespace Go.Proofs.Ytbgjoiccehiglaa.Print
end Go.Proofs.Ytbgjoiccehiglaa.Print
namespace Go.Proofs.Ytbgjoiccehiglaa.LibD
end Go.Proofs.Ytbgjoiccehiglaa.LibD
namespace Go.Proofs.Ytbgjoiccehiglaa.Print
end Go.Proofs.Ytbgjoiccehiglaa.Print
namespace Go.Proofs.Ytbgjoiccehiglaa.LibE
end Go.Proofs.Ytbgjoiccehiglaa.LibE
namespace Go.Proofs.Ytbgjoiccehiglaa.LibF
end Go.Proofs.Ytbgjoiccehiglaa.LibF
namespace Go.Proofs.Ytbgjoiccehiglaa.LibG
end Go.Proofs.Ytbgjoiccehiglaa.LibG
namespace Go.Proofs.Ytbgjoiccehiglaa.Print
end Go.Proofs.Ytbgjoiccehiglaa.Print
namespace Go.Proofs.Ytbgjoiccehiglaa.Print
end Go.Proofs.Ytbgjoiccehiglaa.Print
section
namespace Go.Proofs.Ytbgjoiccehiglaa.LibW
open Go.RowKit Go.Proofs.Ytbgjoiccehiglaa.Print Go.Proofs.YtbgjoiccehiglaaW.PrintWords Go.Proofs.YtbgjoiccehiglaaW.PrintLast Go.Proofs.YtbgjoiccehiglaaW.PrintMore Go.Proofs.Ytbgjoiccehiglaa.LibU Go.Proofs.Ytbgjoiccehiglaa.LibV Go.Proofs.Ytbgjoiccehiglaa.LibC Go.Proofs.Ytbgjoiccehiglaa.LibE Go.Proofs.Ytbgjoiccehiglaa.LibG
theorem rd_at (l : List Int) (i : Nat) (h : i < l.length) : rd l (i : Int) = l[i] := by simp [rd, List.getD_eq_getElem?_getD, h]
theorem rd53_at (l : List S53) (i : Nat) (h : i < l.length) : rd_T53 l (i : Int) = l[i] := by simp [rd_T53, List.getD_eq_getElem?_getD, h]
theorem rd98_at (l : List S98) (i : Nat) (h : i < l.length) : rd_T98 l (i : Int) = l[i] := by simp [rd_T98, List.getD_eq_getElem?_getD, h]
theorem len_runs (l : List Int) : (runs l).length ≤ l.length := by
  have := len_spread (may_runs l)
  rwa [spread_runs] at this
theorem copy_l (x7 : List S98) (hl : (x7.length : Int) ≤ 1000000000000) : ∀ (d k i : Nat) (acc : List S53), i + d = x7.length → d + 1 ≤ k → acc.length = i →
    runs_Runs.l0 k acc x7 (x7.length : Int) (i : Int) = some (acc ++ (x7.drop i).map cv)
  | 0, k, i, acc, hd, hk, hs => by
    obtain ⟨k, rfl⟩ : ∃ k', k = k' + 1 := ⟨k - 1, by omega⟩
    unfold runs_Runs.l0
    rw [if_neg (by omega), List.drop_eq_nil_of_le (by omega)]
    simp
  | d + 1, k, i, acc, hd, hk, hs => by
    obtain ⟨k, rfl⟩ : ∃ k', k = k' + 1 := ⟨k - 1, by omega⟩
    have hi : i < x7.length := by omega
    unfold runs_Runs.l0
    rw [if_pos (by omega), if_pos (by omega), if_pos (by omega), if_pos (by omega), rd98_at x7 i hi, w64 (by omega) (by omega), show (i : Int) + 1 = ((i + 1 : Nat) : Int) by omega]
    rw [copy_l x7 hl d k (i + 1) _ (by omega) (by omega) (by simp; omega), List.drop_eq_getElem_cons hi]
    rw [List.append_assoc]
    rfl
theorem runs_some (l : List Int) (hl : (l.length : Int) ≤ 1000000000000) (k : Nat) (hk : l.length + 1 ≤ k) : runs_Runs.f k l = some (runs l) := by
  obtain ⟨r98, h1, h2⟩ := of_is l hl k hk
  have hn : r98.length = (runs l).length := by rw [← h2]; simp
  have := len_runs l
  unfold runs_Runs.f
  rw [h1]
  simp only [Option.bind_some]
  have h := copy_l r98 (by omega) r98.length k 0 [] (by omega) (by omega) rfl
  simp only [Int.natCast_zero, List.drop_zero, List.nil_append] at h
  rw [h, h2]
theorem take_snoc (l : List Int) (i : Nat) (h : i < l.length) : l.take (i + 1) = l.take i ++ [l[i]] := by rw [List.take_succ_eq_append_getElem h]
theorem last_runs {l : List Int} {x : Int} {a : List S53} {r : S53} (h : runs (l ++ [x]) = a ++ [r]) : r.f0 = x := by
  have hm := may_runs (l ++ [x])
  have hs := spread_runs (l ++ [x])
  rw [h] at hm hs
  have h1 := hm.last
  rw [spread_snoc, show r.f1.toNat = (r.f1.toNat - 1) + 1 by omega, List.replicate_succ', ← List.append_assoc] at hs
  exact (snoc_inj hs).2
theorem may_iff (rs : List S53) : MayR rs ↔ (∀ (i : Nat) (h : i < rs.length), 1 ≤ rs[i].f1) ∧ ∀ (i : Nat) (h : i + 1 < rs.length), rs[i].f0 ≠ rs[i + 1].f0 := by
  constructor
  · intro h
    induction h with
    | nil => exact ⟨fun i h => absurd h (by simp), fun i h => absurd h (by simp)⟩
    | one r h => exact ⟨fun i hi => by obtain rfl : i = 0 := by simpa using hi
                                       exact h, fun i hi => by simp at hi⟩
    | snoc a q r h h1 hne ih =>
      refine ⟨fun i hi => ?_, fun i hi => ?_⟩
      · by_cases hc : i < (a ++ [q]).length
        · rw [List.getElem_append_left hc]; exact ih.1 i hc
        · rw [List.getElem_append_right (by omega)]; simpa using h1
      · by_cases hc : i + 1 < (a ++ [q]).length
        · rw [List.getElem_append_left (by omega), List.getElem_append_left hc]; exact ih.2 i hc
        · have hz : (a ++ [q]).length = a.length + 1 := by simp
          have hz2 : (a ++ [q] ++ [r]).length = a.length + 2 := by simp
          obtain rfl : i = a.length := by omega
          rw [List.getElem_append_left (by omega), List.getElem_append_right (by omega)]
          simpa using hne
  · obtain ⟨n, hn⟩ : ∃ n, n = rs.length := ⟨_, rfl⟩
    induction n generalizing rs with
    | zero => intro _; rw [List.length_eq_zero_iff.mp hn.symm]; exact .nil
    | succ n ih =>
      rintro ⟨h1, h2⟩
      rcases snoc_cases rs with rfl | ⟨b, r, rfl⟩
      · exact .nil
      · have hz : (b ++ [r]).length = b.length + 1 := by simp
        rcases snoc_cases b with rfl | ⟨a, q, rfl⟩
        · exact .one r (by have := h1 0 (by simp); simpa using this)
        · have hz3 : (a ++ [q]).length = a.length + 1 := by simp
          refine .snoc a q r (ih _ (by omega) ⟨fun i hi => ?_, fun i hi => ?_⟩) ?_ ?_
          · have := h1 i (by omega)
            rwa [List.getElem_append_left (by omega)] at this
          · have := h2 i (by omega)
            rwa [List.getElem_append_left (by omega), List.getElem_append_left (bs := [r]) hi] at this
          · have := h1 (a ++ [q]).length (by omega)
            rw [List.getElem_append_right (by omega)] at this
            simpa using this
          · have := h2 a.length (by omega)
            rw [List.getElem_append_left (by omega), List.getElem_append_right (by omega)] at this
            simpa using this
theorem MayR.pos {rs : List S53} (h : MayR rs) : ∀ r ∈ rs, 1 ≤ r.f1 := fun r hr => by
  obtain ⟨i, hi, rfl⟩ := List.getElem_of_mem hr
  exact ((may_iff rs).mp h).1 i hi
noncomputable def put (x : Int) : ByteArray := strOfNums (putL 9 x)
end Go.Proofs.Ytbgjoiccehiglaa.LibW
end
namespace Go.Proofs.Ytbgjoiccehiglaa.Print
end Go.Proofs.Ytbgjoiccehiglaa.Print
section
namespace Go.Proofs.Ytbgjoiccehiglaa.LibX
open Go.RowKit Go.Proofs.Ytbgjoiccehiglaa.Print Go.Proofs.YtbgjoiccehiglaaW.PrintWords Go.Proofs.YtbgjoiccehiglaaW.PrintLast Go.Proofs.YtbgjoiccehiglaaW.PrintMore Go.Proofs.Ytbgjoiccehiglaa.LibU Go.Proofs.Ytbgjoiccehiglaa.LibV Go.Proofs.Ytbgjoiccehiglaa.LibW Go.Proofs.Ytbgjoiccehiglaa.LibC Go.Proofs.Ytbgjoiccehiglaa.LibD Go.Proofs.Ytbgjoiccehiglaa.LibE Go.Proofs.Ytbgjoiccehiglaa.LibG
theorem spread_app (a b : List S53) : spread (a ++ b) = spread a ++ spread b := by simp [spread]
theorem spread_cons (r : S53) (b : List S53) : spread (r :: b) = List.replicate r.f1.toNat r.f0 ++ spread b := by simp [spread]
end Go.Proofs.Ytbgjoiccehiglaa.LibX
end
section
namespace Go.Proofs.Ytbgjoiccehiglaa.LibY
open Go.RowKit Go.Proofs.Ytbgjoiccehiglaa.Print Go.Proofs.YtbgjoiccehiglaaW.PrintWords Go.Proofs.YtbgjoiccehiglaaW.PrintLast Go.Proofs.YtbgjoiccehiglaaW.PrintMore Go.Proofs.Ytbgjoiccehiglaa.LibU Go.Proofs.Ytbgjoiccehiglaa.LibV Go.Proofs.Ytbgjoiccehiglaa.LibW Go.Proofs.Ytbgjoiccehiglaa.LibX
theorem live06 : bonsailaw06_live.f 60 = some true := by decide +kernel
theorem live06_at {k : Nat} (hk : 60 ≤ k) : bonsailaw06_live.f k = some true := at_rounds (g := bonsailaw06_live.f) (fun k => bonsailaw06_live.mono k) hk live06
theorem may_rev {a : List S53} (h : MayR a) : MayR a.reverse := by
  rw [may_iff] at h ⊢
  refine ⟨fun i hi => ?_, fun i hi => ?_⟩
  · rw [List.getElem_reverse]
    exact h.1 _ _
  · rw [List.getElem_reverse, List.getElem_reverse]
    rw [List.length_reverse] at hi
    have h1 := h.2 (a.length - 1 - (i + 1)) (by omega)
    have h2 : a.length - 1 - (i + 1) + 1 = a.length - 1 - i := by omega
    simp only [h2] at h1
    exact fun e => h1 e.symm
theorem spread_rev : ∀ a : List S53, spread a.reverse = (spread a).reverse
  | [] => rfl
  | r :: a => by rw [List.reverse_cons, spread_snoc, spread_rev a, spread_cons, List.reverse_append, List.reverse_replicate]
theorem runs_rev (l : List Int) : runs l.reverse = (runs l).reverse := by
  have h := runs_spread (may_rev (may_runs l))
  rwa [spread_rev, spread_runs] at h
end Go.Proofs.Ytbgjoiccehiglaa.LibY
end
section
namespace Go.Proofs.Ytbgjoiccehiglaa.Pure
open Go.RowKit Go.Proofs.Ytbgjoiccehiglaa.Print Go.Proofs.YtbgjoiccehiglaaW.PrintWords Go.Proofs.YtbgjoiccehiglaaW.PrintLast Go.Proofs.YtbgjoiccehiglaaW.PrintMore Go.Proofs.Ytbgjoiccehiglaa.LibU Go.Proofs.Ytbgjoiccehiglaa.LibV Go.Proofs.Ytbgjoiccehiglaa.LibW Go.Proofs.Ytbgjoiccehiglaa.LibX Go.Proofs.Ytbgjoiccehiglaa.LibY
theorem runs_one (x : Int) : runs [x] = [(⟨x, 1⟩ : S53)] := rfl
theorem runs_step (l : List Int) (i : Nat) (h0 : 0 < i) (h : i < l.length) : (runs (l.take (i + 1))).length = (runs (l.take i)).length + (if l[i] = l[i - 1] then 0 else 1) := by
  rw [take_snoc l i h, runs_snoc]
  rcases snoc_cases (runs (l.take i)) with he | ⟨a, r, he⟩
  · exfalso
    have := spread_runs (l.take i)
    rw [he] at this
    have := congrArg List.length this
    simp [spread] at this
    omega
  · have hr : r.f0 = l[i - 1] := by
      have h2 : l.take i = l.take (i - 1) ++ [l[i - 1]] := by rw [← take_snoc l (i - 1) (by omega)]; congr 1; omega
      rw [h2] at he
      exact last_runs he
    rw [he, addR_snoc, hr]
    by_cases hx : l[i] = l[i - 1]
    · rw [if_pos hx.symm, if_pos hx]; simp
    · rw [if_neg (fun e => hx e.symm), if_neg hx]; simp
theorem few_last (l : List Int) (hl : l.length ≤ 200) (k : Nat) (hk : 60 ≤ k) : ∀ (d i : Nat) (n : Int), i + d = (runs l).length → n = (spread ((runs l).take i)).length →
    bonsailaw06_RunsFew.l1 (k + d + 1) l (runs l) (runs l).reverse n (i : Int) = some true := by
  have hn := len_runs l
  intro d
  induction d with
  | zero =>
    intro i n hd hs
    unfold bonsailaw06_RunsFew.l1
    rw [List.take_of_length_le (by omega), spread_runs] at hs
    rw [if_neg (by omega), if_pos hs, live06_at (by omega)]; rfl
  | succ d ih =>
    intro i n hd hs
    have hi : i < (runs l).length := by omega
    have hp := MayR.pos (may_runs l) (runs l)[i] (List.getElem_mem hi)
    have hle : (runs l)[i].f1 ≤ l.length ∧ n ≤ l.length ∧ 0 ≤ n := by
      have h1 := congrArg List.length (spread_runs l)
      rw [← List.take_append_drop i (runs l), List.drop_eq_getElem_cons hi, spread_app, spread_cons] at h1
      simp only [List.length_append, List.length_replicate] at h1
      omega
    unfold bonsailaw06_RunsFew.l1
    have hrev : (runs l).length - 1 - i < (runs l).reverse.length := by rw [List.length_reverse]; omega
    rw [if_pos (by omega), if_pos (by omega), w64 (n := ((runs l).length : Int) - 1) (by omega) (by omega), w64 (n := ((runs l).length : Int) - 1 - i) (by omega) (by omega), if_pos (by omega), if_pos (by rw [List.length_reverse]; omega)]
    rw [show ((runs l).length : Int) - 1 - i = (((runs l).length - 1 - i : Nat) : Int) by omega, rd53_at _ _ hrev, rd53_at _ _ hi, List.getElem_reverse]
    have hb : (runs l).length - 1 - ((runs l).length - 1 - i) = i := by omega
    simp only [hb]
    rw [if_neg (by simp), w64 (by omega) (by omega), w64 (by omega) (by omega), show (i : Int) + 1 = ((i + 1 : Nat) : Int) by omega, show k + (d + 1) = k + d + 1 by omega]
    refine ih (i + 1) _ (by omega) ?_
    rw [List.take_succ_eq_append_getElem hi, spread_snoc, List.length_append, List.length_replicate]
    omega
theorem few_end (l : List Int) (hl : l.length ≤ 200) (n : Int) (hn : if l = [] then n = 0 else n + 1 = (runs l).length) (k : Nat) (hk : 300 + l.length ≤ k) : bonsailaw06_RunsFew.l0 (k + 1) l n l.reverse (-1) = some true := by
  have hr := len_runs l
  unfold bonsailaw06_RunsFew.l0
  rw [if_neg (by omega), runs_some l (by omega) k (by omega), runs_some l.reverse (by rw [List.length_reverse]; omega) k (by rw [List.length_reverse]; omega)]
  simp only [Option.bind_some]
  by_cases h0 : l = []
  · subst h0
    rw [if_pos (by simp), if_pos (by simp [runs]), live06_at (by omega)]; rfl
  · rw [if_neg h0] at hn
    have hpos : 0 < l.length := List.length_pos_iff.mpr h0
    rw [if_neg (by omega), w64 (by omega) (by omega), if_pos hn.symm, runs_rev]
    obtain ⟨k, rfl⟩ : ∃ m, k = m + (runs l).length + 1 + 1 := ⟨k - (runs l).length - 2, by omega⟩
    simp only [bonsailaw06_RunsFew.j1]
    rw [if_neg (by simp)]
    exact few_last l hl k (by omega) (runs l).length 0 0 (by omega) (by simp [spread])
theorem few_l (l : List Int) (hl : l.length ≤ 200) (k : Nat) (hk : 300 + l.length ≤ k) : ∀ (i : Nat) (n : Int), i < l.length → 0 ≤ n → n + (runs (l.take (i + 1))).length = (runs l).length →
    bonsailaw06_RunsFew.l0 (k + i + 2) l n (l.drop (i + 1)).reverse (i : Int) = some true := by
  have hr := len_runs l
  intro i
  induction i with
  | zero =>
    intro n hi h0 hn
    rw [show k + 0 + 2 = (k + 1) + 1 by omega]
    have hc : l.drop 0 = l[0] :: l.drop (0 + 1) := List.drop_eq_getElem_cons hi
    unfold bonsailaw06_RunsFew.l0
    rw [if_pos (by omega), if_pos (by omega), if_pos (by omega), if_pos (by rw [List.length_reverse, List.length_drop]; omega), rd_at l 0 hi]
    simp only [Option.bind_some]
    rw [if_neg (by omega), w64 (by omega) (by omega), ← List.reverse_cons, ← hc]
    refine few_end l hl n ?_ k hk
    rw [if_neg (by intro h; rw [h] at hi; simp at hi)]
    rw [show l.take (0 + 1) = [l[0]] by rw [take_snoc l 0 hi]; simp, runs_one] at hn
    simpa using hn
  | succ i ih =>
    intro n hi h0 hn
    have hst := runs_step l (i + 1) (by omega) hi
    have hc : l.drop (i + 1) = l[i + 1] :: l.drop (i + 1 + 1) := List.drop_eq_getElem_cons hi
    have hsub : i + 1 - 1 = i := by omega
    simp only [hsub] at hst
    rw [show k + (i + 1) + 2 = (k + i + 2) + 1 by omega]
    unfold bonsailaw06_RunsFew.l0
    rw [if_pos (by omega), if_pos (by omega), if_pos (by omega), if_pos (by rw [List.length_reverse, List.length_drop]; omega), rd_at l (i + 1) hi]
    simp only [Option.bind_some]
    rw [if_pos (by omega), w64 (n := ((i + 1 : Nat) : Int) - 1) (by omega) (by omega), if_pos (by omega), if_pos (by omega), show ((i + 1 : Nat) : Int) - 1 = (i : Int) by omega, rd_at l i (by omega), ← List.reverse_cons, ← hc]
    by_cases hx : l[i + 1] = l[i]
    · rw [if_pos hx] at hst ⊢
      exact ih n (by omega) h0 (by omega)
    · rw [if_neg hx] at hst ⊢
      rw [w64 (by omega) (by omega)]
      exact ih (n + 1) (by omega) (by omega) (by omega)
theorem RunsFew : bonsailaw06_RunsFew.Pure := by
  intro l _ _ _
  refine ⟨l.length + 900, ?_⟩
  unfold bonsailaw06_RunsFew.f
  by_cases hb : (l.length : Int) > 200
  · rw [if_pos hb, live06_at (by omega)]; rfl
  · rw [if_neg hb, w64 (by omega) (by omega)]
    by_cases h0 : l = []
    · subst h0
      exact few_end [] (by decide) 0 (by simp) 899 (by decide)
    · have hpos : 0 < l.length := List.length_pos_iff.mpr h0
      have := few_l l (by omega) (l.length + 300 + (598 - (l.length - 1))) (by omega) (l.length - 1) 0 (by omega) (by omega) (by rw [List.take_of_length_le (by omega)]; omega)
      rw [List.drop_eq_nil_of_le (by omega)] at this
      rw [show l.length + 300 + (598 - (l.length - 1)) + (l.length - 1) + 2 = l.length + 900 by omega, show ((l.length - 1 : Nat) : Int) = (l.length : Int) - 1 by omega] at this
      exact this
end Go.Proofs.Ytbgjoiccehiglaa.Pure
end
section
namespace Go.Proofs.Ytbgjoiccehiglaa.runsFew
open Go.ChangeShapes Go.WideShapes Go.ChangeAt Go.RowKit
open Go.ChangeMaps (open_string shut_string)
set_option linter.unusedVariables false
theorem own : ownKnob Try.prog.godebug = none := by kernel_rfl
theorem laidOut : laidOutB Try.prog = true := by kernel_rfl
def IsRow (k : IntKind) (w : World) (a : Option Addr) (len cap : Nat) (zs : List Int) : Prop :=
  (a = none ∧ len = 0 ∧ cap = 0 ∧ zs = []) ∨
  ∃ x, a = some x ∧ len ≤ cap ∧ cap ≤ maxLen ∧ zs.length = cap ∧ (∀ i, i < zs.length → w.cell? (x.add i) = some (.int k (zs.getD i 0))) ∧ ∀ n ∈ zs, (Lit.int k n).wf = true
set_option maxRecDepth 100000 in
theorem lifted (os : Os) (started : os.Started) (H : Type) (enc : TypeId × Value → H) :
    ReturnsInHanded {} Try.checked os 12 .any (Rows.runsFewSpec.pre6 enc Try.prog Try.f12 Rows.runsFewRow.domain false) (Rows.runsFewSpec.post enc Try.prog Try.f12 false true false false) := by
  refine returnsInHanded_of_change_sized (C := Try.checked) own started (by kernel_rfl) Try.func12
    (ChangeSpec.witness6 (enc := enc) (C := Try.checked) false ⟨#[], #[.slice none 0 0], []⟩ 8 (by kernel_rfl) (by kernel_rfl) (by kernel_rfl) (by kernel_rfl)) ?_
  intro W base args ds gs before hval0 hW hcnd hsz0 _
  have hsz : (DataW.weightsEach Try.prog (Try.f12.params.toList ++ Rows.runsFewSpec.plain.varTypes Try.prog) (ds ++ gs)).all (· ≤ reachBytes) = true := hsz0
  have hval : ∀ (j : Nat) t v, Try.f12.params[j]? = some t → args[j]? = some v → Value.okWide Try.prog W .any base t v := hval0
  have hW' := hW
  obtain ⟨p, q, hA0, hV, rfl, hfz, hnd⟩ := hW
  have hA : DataW.TrodAll enc Try.prog W 0 (fun _ => true) true Try.f12.params.toList args.toList ds p := hA0
  rw [Try.params12] at hA hval hsz
  obtain ⟨v0, vs0, d0, ds0, p0, q0, hargs, rfl, rfl, h0, r0⟩ := trodAll_cons hA
  obtain ⟨rfl, rfl, rfl⟩ := trodAll_nil r0
  obtain rfl : args = #[v0] := by cases args; simp_all
  obtain ⟨rfl, rfl⟩ := trodVars_none hV
  obtain ⟨a0, len0, cap0, rfl⟩ := okWide_slice Try.underlying38 (hval 0 38 v0 rfl rfl)
  have k0 := h0
  have lt0 : ∀ x ∈ p0, x.block < W.heap.size := by obtain ⟨m, hm⟩ := k0; exact DataW.trod_lt m _ _ _ hm
  obtain ⟨z0, w0⟩ : ∃ zs, IsRow .u64 W a0 len0 cap0 zs := by
    obtain ⟨fuel, hf⟩ := h0
    rcases open_ints Try.underlying38 Try.underlying51 (by kernel_rfl) hf with ⟨hcs, _⟩ | ⟨x, l, c, zs, hcs, _, hl, hm, hz, _, hcell, hwz⟩
    · simp [Value.cells] at hcs
      obtain ⟨rfl, rfl, rfl⟩ := hcs
      exact ⟨[], .inl ⟨rfl, rfl, rfl, rfl⟩⟩
    · simp [Value.cells] at hcs
      obtain ⟨rfl, rfl, rfl⟩ := hcs
      exact ⟨zs, .inr ⟨_, rfl, hl, hm, by simpa using hz, hcell, hwz⟩⟩
  have y0 : len0 * 8 ≤ 140737488351232 := Go.Proofs.YtbgjoiccehiglaaW.PrintWords.sized_ints hsz (j := 0) (t := 38) rfl rfl Try.underlying38 Try.underlying51 (by kernel_rfl) (by kernel_rfl) h0
  clear hA0 hval0 hsz0 hsz
  refine (Print.bonsailaw06_RunsFew.walk Pure.RunsFew a0 len0 cap0 z0 W w0 y0).mono fun e W' ⟨he, bel⟩ => ?_
  subst he
  exact ⟨_, rfl, _, _, _, [], _, [], hW', trodAll_mk1 (shut_bool Try.underlying4 _), (trodAll_cons_mk (Below.trod laidOut (by kernel_rfl) (of_decide_eq_true (by kernel_rfl)) k0 bel lt0) trodAll_mk0), rfl, bel.frame _, fun h => by cases h⟩
theorem over : Rows.runsFewRow.holds Try.pinned (OpenSpec.ofChange Rows.runsFewSpec) :=
  OpenClaim.holds_of_wide 12 Try.f12 rfl rfl rfl rfl rfl rfl rfl ⟨rfl, rfl, rfl, rfl, rfl⟩ rfl rfl rfl rfl rfl (by kernel_rfl) Try.func12 (by kernel_rfl)
    (of_decide_eq_true (by kernel_rfl)) (by unfold Func.isWrapper; first | (rw [if_pos (by decide +kernel)]; kernel_rfl) | (rw [if_neg (by decide +kernel)]; exact ⟨rfl, rfl⟩))
    (fun os started H enc _ => lifted os started H enc)
theorem proved : Rows.RunsFewSaid := over
#print axioms proved
end Go.Proofs.Ytbgjoiccehiglaa.runsFew
namespace Go.Proofs.Ytbgjoiccehiglaa
theorem runsFew_holds : Rows.RunsFewSaid := runsFew.proved
end Go.Proofs.Ytbgjoiccehiglaa
end
