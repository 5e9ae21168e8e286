/- Any list's, of at most 200 flags, lengths and bytes, and how many are true; what any at most 40 lengths spread to, up to 300: the program's answers are the document's. -/
import Derived.Test.YtbgjoiccehiglaaRows
import Derived.WalkKit
import Derived.ProofKit
import Derived.OpenShut
import Derived.ShutString
import Derived.ChangeOld
import Derived.Below
import Derived.SizedLaws
import Derived.Test.YtbgjoiccehiglaaCFlagsTells2
section
namespace Go.Proofs.Ytbgjoiccehiglaa.LibH
open Go.RowKit Go.Proofs.Ytbgjoiccehiglaa.Print Go.Proofs.YtbgjoiccehiglaaW.PrintWords Go.Proofs.YtbgjoiccehiglaaW.PrintLast Go.Proofs.YtbgjoiccehiglaaW.PrintMore Go.Proofs.Ytbgjoiccehiglaa.LibU Go.Proofs.Ytbgjoiccehiglaa.LibV Go.Proofs.Ytbgjoiccehiglaa.LibW Go.Proofs.Ytbgjoiccehiglaa.LibX Go.Proofs.Ytbgjoiccehiglaa.LibD Go.Proofs.Ytbgjoiccehiglaa.LibE Go.Proofs.Ytbgjoiccehiglaa.LibG
def fl : Bool → List Bool → Int → List Int
  | _, [], n => [n]
  | c, x :: xs, n => if x = c then fl c xs (n + 1) else n :: fl (!c) xs 1
def lens (l : List Bool) : List Int := if l = [] then [] else fl false l 0
def sp : Bool → List Int → List Bool
  | _, [] => []
  | c, n :: ns => List.replicate n.toNat c ++ sp (!c) ns
def Pos (ns : List Int) : Prop := ∀ n ∈ ns, 1 ≤ n
theorem fl_ne (c : Bool) (l : List Bool) (n : Int) : fl c l n ≠ [] := by
  cases l with
  | nil => simp [fl]
  | cons x xs =>
    unfold fl
    split
    · exact fl_ne c xs (n + 1)
    · simp
theorem fl_pos : ∀ (l : List Bool) (c : Bool) (n : Int), 1 ≤ n → Pos (fl c l n)
  | [], c, n, h => fun m hm => by simp [fl] at hm; omega
  | x :: xs, c, n, h => by
    unfold fl
    split
    · exact fl_pos xs c (n + 1) (by omega)
    · intro m hm
      rcases List.mem_cons.mp hm with rfl | hm
      · exact h
      · exact fl_pos xs _ 1 (by omega) m hm
theorem sp_fl : ∀ (l : List Bool) (c : Bool) (n : Int), 0 ≤ n → sp c (fl c l n) = List.replicate n.toNat c ++ l
  | [], c, n, h => by simp [fl, sp]
  | x :: xs, c, n, h => by
    unfold fl
    split
    · rename_i hx
      rw [sp_fl xs c (n + 1) (by omega), show (n + 1).toNat = n.toNat + 1 by omega, List.replicate_succ', hx]
      simp
    · rename_i hx
      have hc : x = !c := by cases x <;> cases c <;> simp_all
      unfold sp
      rw [sp_fl xs (!c) 1 (by omega), hc]
      simp
theorem sp_lens (l : List Bool) : sp false (lens l) = l := by
  unfold lens
  split
  · rename_i h; rw [h]; rfl
  · rw [sp_fl l false 0 (by omega)]; simp
def MayF (ns : List Int) : Prop := ns = [] ∨ ∃ n t, ns = n :: t ∧ 0 ≤ n ∧ Pos t ∧ ¬ (n = 0 ∧ t = [])
theorem may_lens (l : List Bool) : MayF (lens l) := by
  unfold lens
  split
  · exact .inl rfl
  · rename_i h
    cases l with
    | nil => exact absurd rfl h
    | cons x xs =>
      right
      unfold fl
      split
      · have hp := fl_pos xs false (0 + 1) (by omega)
        cases hf : fl false xs (0 + 1) with
        | nil => exact absurd hf (fl_ne _ _ _)
        | cons n t =>
          rw [hf] at hp
          have := hp n List.mem_cons_self
          exact ⟨n, t, rfl, by omega, fun m hm => hp m (List.mem_cons_of_mem _ hm), by omega⟩
      · exact ⟨0, _, rfl, by omega, fl_pos xs _ 1 (by omega), fun h => fl_ne _ _ _ h.2⟩
theorem rdb_at (l : List Bool) (i : Nat) (h : i < l.length) : rdOf false l (i : Int) = l[i] := by simp [rdOf, List.getD_eq_getElem?_getD, h]
def lead (c : Bool) : List Bool → Nat
  | [] => 0
  | x :: xs => if x = c then lead c xs + 1 else 0
theorem lead_le (c : Bool) : ∀ l : List Bool, lead c l ≤ l.length
  | [] => Nat.le_refl _
  | x :: xs => by
    have := lead_le c xs
    unfold lead
    split <;> simp <;> omega
theorem lead_split (c : Bool) : ∀ (l : List Bool) (n : Int), fl c l n = (n + lead c l) :: (if l.drop (lead c l) = [] then [] else fl (!c) (l.drop (lead c l)) 0)
  | [], n => by simp [fl, lead]
  | x :: xs, n => by
    show (if x = c then fl c xs (n + 1) else n :: fl (!c) xs 1) = _
    unfold lead
    by_cases hx : x = c
    · have ih := lead_split c xs (n + 1)
      rw [if_pos hx, if_pos hx, ih, List.drop_succ_cons, show n + 1 + (lead c xs : Int) = n + ((lead c xs + 1 : Nat) : Int) by omega]
    · rw [if_neg hx, if_neg hx]
      have hc : x = !c := by cases x <;> cases c <;> simp_all
      simp only [List.drop_zero, Int.natCast_zero, Int.add_zero, if_neg (List.cons_ne_nil x xs)]
      have h2 : fl (!c) (x :: xs) 0 = fl (!c) xs 1 := by
        show (if x = !c then fl (!c) xs (0 + 1) else _) = _
        rw [if_pos hc]
        rfl
      rw [h2]
theorem index_l (c : Bool) (l : List Bool) (hl : (l.length : Int) ≤ 1000000000000) : ∀ (d k i : Nat), i + d = l.length → d + 1 ≤ k →
    slices_Index_bool_bool.l0 k l (!c) (l.length : Int) (i : Int) = some (if lead c (l.drop i) = (l.drop i).length then -1 else ((i + lead c (l.drop i) : Nat) : Int)) := by
  intro d
  induction d with
  | zero =>
    intro k i hd hk
    obtain ⟨k, rfl⟩ : ∃ m, k = m + 1 := ⟨k - 1, by omega⟩
    unfold slices_Index_bool_bool.l0
    rw [if_neg (by omega), List.drop_eq_nil_of_le (by omega)]
    rfl
  | succ d ih =>
    intro k i hd hk
    obtain ⟨k, rfl⟩ : ∃ m, k = m + 1 := ⟨k - 1, by omega⟩
    have hi : i < l.length := by omega
    unfold slices_Index_bool_bool.l0
    rw [if_pos (by omega), if_pos (by omega), if_pos (by omega), rdb_at l i hi, List.drop_eq_getElem_cons hi]
    unfold lead
    by_cases hx : l[i] = c
    · rw [if_neg (by rw [hx]; cases c <;> simp), w64 (by omega) (by omega), show (i : Int) + 1 = ((i + 1 : Nat) : Int) by omega, ih k (i + 1) (by omega) (by omega), if_pos hx]
      congr 1
      by_cases h : lead c (l.drop (i + 1)) = (l.drop (i + 1)).length
      · rw [if_pos h, if_pos (by rw [List.length_cons, h])]
      · rw [if_neg h, if_neg (by rw [List.length_cons]; omega)]
        omega
    · rw [if_pos (by cases c <;> cases h : l[i] <;> simp_all), if_neg hx, if_neg (by simp only [List.length_cons]; omega)]
      rfl
theorem len_l : ∀ (d k : Nat) (b : Bool) (l : List Bool) (out : List Int), 2 * l.length + (if lead (!b) l = 0 then 1 else 0) < d → (l.length : Int) ≤ 1000000000000 → (out.length : Int) + d ≤ 10000000000000 → d + l.length + 1 ≤ k →
    flags_Lengths.l0 k b l out = some (out ++ (if l = [] then [] else fl (!b) l 0)) := by
  intro d
  induction d with
  | zero => intro k b l out hd; omega
  | succ d ih =>
    intro k b l out hd hl ho hk
    obtain ⟨k, rfl⟩ : ∃ m, k = m + 1 := ⟨k - 1, by omega⟩
    unfold flags_Lengths.l0
    by_cases h0 : l = []
    · subst h0
      simp
    · have hpos : 0 < l.length := List.length_pos_iff.mpr h0
      rw [if_pos hpos, if_neg h0]
      unfold slices_Index_bool_bool.f
      have hi := index_l (!b) l hl l.length k 0 (by omega) (by omega)
      simp only [Bool.not_not, Int.natCast_zero, List.drop_zero, Nat.zero_add] at hi
      rw [hi]
      simp only [Option.bind_some]
      have hle := lead_le (!b) l
      rw [lead_split (!b) l 0, Bool.not_not, Int.zero_add]
      by_cases hall : lead (!b) l = l.length
      · rw [if_pos hall, if_pos (by omega), if_pos (by omega)]
        have hd : l.drop (lead (!b) l) = [] := List.drop_eq_nil_of_le (by omega)
        rw [hd, if_pos rfl, hall, List.drop_eq_nil_of_le (Nat.le_refl _)]
        obtain ⟨k, rfl⟩ : ∃ m, k = m + 1 := ⟨k - 1, by omega⟩
        unfold flags_Lengths.l0
        simp
      · rw [if_neg hall, if_neg (by omega), if_pos (by omega), if_pos (by omega), Int.toNat_natCast]
        have hne : l.drop (lead (!b) l) ≠ [] := by
          intro h
          have := congrArg List.length h
          rw [List.length_drop] at this
          simp at this
          omega
        rw [if_neg hne]
        have hdl : (l.drop (lead (!b) l)).length = l.length - lead (!b) l := List.length_drop
        have hm : 2 * (l.drop (lead (!b) l)).length + (if lead (!!b) (l.drop (lead (!b) l)) = 0 then 1 else 0) < d := by
          by_cases hz : lead (!b) l = 0
          · rw [if_pos hz] at hd
            have h1 : lead (!!b) (l.drop (lead (!b) l)) ≠ 0 := by
              rw [hz, List.drop_zero, Bool.not_not]
              cases l with
              | nil => exact absurd rfl h0
              | cons x xs =>
                unfold lead at hz ⊢
                split at hz
                · omega
                · rename_i h
                  rw [if_pos (by cases x <;> cases b <;> simp_all)]
                  omega
            rw [if_neg h1]
            omega
          · rw [if_neg hz] at hd
            split <;> omega
        rw [ih k (!b) (l.drop (lead (!b) l)) _ hm (by omega) (by rw [List.length_append]; simp only [List.length_cons, List.length_nil]; omega) (by omega), if_neg hne, Bool.not_not]
        simp
theorem lengths_some (l : List Bool) (hl : (l.length : Int) ≤ 1000000000000) (k : Nat) (hk : 3 * l.length + 3 ≤ k) : flags_Lengths.f k l = some (lens l) := by
  unfold flags_Lengths.f lens
  have := len_l (2 * l.length + 2) k true l [] (by split <;> omega) hl (by simp; omega) (by omega)
  simpa using this
theorem ref_l1 (l : List Bool) (hl : (l.length : Int) ≤ 1000000000000) (c : Bool) (out : List Int) (ho : (out.length : Int) ≤ 10000000000000) : ∀ (d k i : Nat) (n : Int), i + d = l.length → d + 1 ≤ k → 0 ≤ n → n + d ≤ 1000000000000 →
    bonsairef07_Lengths.l1 k l out c (i : Int) n = bonsairef07_Lengths.l0 (k - (lead c (l.drop i) + 1)) l (out ++ [n + lead c (l.drop i)]) (!c) ((i + lead c (l.drop i) : Nat) : Int) := by
  intro d
  induction d with
  | zero =>
    intro k i n hd hk h0 hn
    obtain ⟨k, rfl⟩ : ∃ m, k = m + 1 := ⟨k - 1, by omega⟩
    unfold bonsairef07_Lengths.l1
    rw [if_neg (by omega), if_pos (by omega), List.drop_eq_nil_of_le (by omega)]
    simp [lead]
  | succ d ih =>
    intro k i n hd hk h0 hn
    obtain ⟨k, rfl⟩ : ∃ m, k = m + 1 := ⟨k - 1, by omega⟩
    have hi : i < l.length := by omega
    unfold bonsairef07_Lengths.l1
    rw [if_pos (by omega), if_pos (by omega), rdb_at l i hi, List.drop_eq_getElem_cons hi]
    unfold lead
    by_cases hx : l[i] = c
    · rw [if_pos (by simp [hx]), if_pos hx, w64 (by omega) (by omega), w64 (by omega) (by omega), show (i : Int) + 1 = ((i + 1 : Nat) : Int) by omega, ih k (i + 1) (n + 1) (by omega) (by omega) (by omega) (by omega)]
      rw [show n + 1 + (lead c (l.drop (i + 1)) : Int) = n + ((lead c (l.drop (i + 1)) + 1 : Nat) : Int) by omega, show k - (lead c (l.drop (i + 1)) + 1) = k + 1 - (lead c (l.drop (i + 1)) + 1 + 1) by omega, show i + 1 + lead c (l.drop (i + 1)) = i + (lead c (l.drop (i + 1)) + 1) by omega]
    · rw [if_neg (by simp [hx]), if_neg hx, if_pos (by omega)]
      simp
theorem ref_l0 (l : List Bool) (hl : (l.length : Int) ≤ 1000000000000) : ∀ (d k i : Nat) (c : Bool) (out : List Int), i ≤ l.length → 2 * (l.length - i) + (if lead c (l.drop i) = 0 then 1 else 0) < d → (out.length : Int) + d ≤ 10000000000000 → 2 * d + (l.length - i) + 3 ≤ k →
    bonsairef07_Lengths.l0 k l out c (i : Int) = some (out ++ (if l.drop i = [] then [] else fl c (l.drop i) 0)) := by
  intro d
  induction d with
  | zero => intro k i c out _ hd; omega
  | succ d ih =>
    intro k i c out hil hd ho hk
    obtain ⟨k, rfl⟩ : ∃ m, k = m + 1 := ⟨k - 1, by omega⟩
    unfold bonsairef07_Lengths.l0
    by_cases hi : i < l.length
    · have hne0 : l.drop i ≠ [] := by
        intro h
        have := congrArg List.length h
        rw [List.length_drop] at this
        simp at this
        omega
      have hle := lead_le c (l.drop i)
      rw [List.length_drop] at hle
      rw [if_pos (by omega), if_neg hne0, ref_l1 l hl c out (by omega) (l.length - i) k i 0 (by omega) (by omega) (by omega) (by omega), lead_split c (l.drop i) 0, List.drop_drop]
      have hm : 2 * (l.length - (i + lead c (l.drop i))) + (if lead (!c) (l.drop (i + lead c (l.drop i))) = 0 then 1 else 0) < d := by
        by_cases hz : lead c (l.drop i) = 0
        · rw [if_pos hz] at hd
          have h1 : lead (!c) (l.drop (i + lead c (l.drop i))) ≠ 0 := by
            rw [hz, Nat.add_zero]
            cases hl : l.drop i with
            | nil => exact absurd hl hne0
            | cons x xs =>
              rw [hl] at hz
              unfold lead at hz ⊢
              split at hz
              · omega
              · rename_i h
                rw [if_pos (by cases x <;> cases c <;> simp_all)]
                omega
          rw [if_neg h1]
          omega
        · rw [if_neg hz] at hd
          split <;> omega
      rw [ih _ (i + lead c (l.drop i)) (!c) _ (by omega) hm (by rw [List.length_append]; simp only [List.length_cons, List.length_nil]; omega) (by omega)]
      simp
    · rw [if_neg (by omega), List.drop_eq_nil_of_le (by omega)]
      simp
theorem refLengths_some (l : List Bool) (hl : (l.length : Int) ≤ 1000000000000) (k : Nat) (hk : 5 * l.length + 7 ≤ k) : bonsairef07_Lengths.f k l = some (lens l) := by
  unfold bonsairef07_Lengths.f lens
  have := ref_l0 l hl (2 * l.length + 2) k 0 false [] (by omega) (by split <;> omega) (by simp; omega) (by omega)
  simpa using this
theorem len_lens (l : List Bool) : (lens l).length ≤ l.length + 1 := by
  have h : ∀ (l : List Bool) (c : Bool) (n : Int), (fl c l n).length ≤ l.length + 1 := by
    intro l
    induction l with
    | nil => intro c n; simp [fl]
    | cons x xs ih =>
      intro c n
      unfold fl
      split
      · have := ih c (n + 1); simp only [List.length_cons]; omega
      · have := ih (!c) 1; simp only [List.length_cons]; omega
  unfold lens
  split
  · simp
  · exact h _ _ _
end Go.Proofs.Ytbgjoiccehiglaa.LibH
end
section
namespace Go.Proofs.Ytbgjoiccehiglaa.LibI
open Go.RowKit Go.Proofs.Ytbgjoiccehiglaa.Print Go.Proofs.YtbgjoiccehiglaaW.PrintWords Go.Proofs.YtbgjoiccehiglaaW.PrintLast Go.Proofs.YtbgjoiccehiglaaW.PrintMore Go.Proofs.Ytbgjoiccehiglaa.LibU Go.Proofs.Ytbgjoiccehiglaa.LibV Go.Proofs.Ytbgjoiccehiglaa.LibW Go.Proofs.Ytbgjoiccehiglaa.LibX Go.Proofs.Ytbgjoiccehiglaa.LibD Go.Proofs.Ytbgjoiccehiglaa.LibE Go.Proofs.Ytbgjoiccehiglaa.LibG Go.Proofs.Ytbgjoiccehiglaa.LibH
def least (f : Bool) : Int := if f = true then 0 else 1
def sF (most : Int) : Bool → Bool → List Int → List Bool → List Bool × Bool
  | _, _, [], out => (out, true)
  | c, f, n :: ns, out => if n < least f then ([], false) else if n > most - (out.length : Int) then ([], false) else sF most (!c) false ns (out ++ List.replicate n.toNat c)
def Ok (f : Bool) : List Int → Prop
  | [] => True
  | n :: t => least f ≤ n ∧ Pos t
theorem ok_false (t : List Int) : Ok false t ↔ Pos t := by
  cases t with
  | nil => exact ⟨fun _ n hn => by simp at hn, fun _ => trivial⟩
  | cons n t => exact ⟨fun h m hm => by
      rcases List.mem_cons.mp hm with rfl | hm
      · exact h.1
      · exact h.2 m hm, fun h => ⟨h n List.mem_cons_self, fun m hm => h m (List.mem_cons_of_mem _ hm)⟩⟩
open Classical in
theorem sF_is (most : Int) : ∀ (ns : List Int) (c f : Bool) (out : List Bool), (out.length : Int) ≤ most →
    sF most c f ns out = if Ok f ns ∧ (out.length : Int) + ((sp c ns).length : Int) ≤ most then (out ++ sp c ns, true) else ([], false) := by
  intro ns
  induction ns with
  | nil =>
    intro c f out ho
    simp [sF, Ok, sp, ho]
  | cons n ns ih =>
    intro c f out ho
    have hl : 0 ≤ least f := by unfold least; split <;> omega
    unfold sF sp
    by_cases h1 : n < least f
    · rw [if_pos h1, if_neg (fun h => by have := h.1.1; omega)]
    · rw [if_neg h1]
      rw [List.length_append, List.length_replicate]
      by_cases h2 : n > most - (out.length : Int)
      · rw [if_pos h2, if_neg (fun h => by have := h.2; omega)]
      · rw [if_neg h2, ih (!c) false _ (by rw [List.length_append, List.length_replicate]; omega), List.append_assoc, List.length_append, List.length_replicate]
        by_cases h3 : Ok false ns ∧ ((out.length + n.toNat : Nat) : Int) + ((sp (!c) ns).length : Int) ≤ most
        · rw [if_pos h3, if_pos ⟨⟨by omega, (ok_false ns).mp h3.1⟩, by have := h3.2; omega⟩]
        · rw [if_neg h3, if_neg (fun h => h3 ⟨(ok_false ns).mpr h.1.2, by have := h.2; omega⟩)]
theorem mn_i {i : Nat} : mn (i : Int) 1 = least (decide (i = 0)) := by
  unfold mn least
  by_cases h : i = 0
  · subst h; decide
  · simp [h]; omega
def odd (i : Nat) : Bool := decide (i % 2 = 1)
theorem odd_succ (i : Nat) : odd (i + 1) = !odd i := by
  unfold odd
  rcases Nat.mod_two_eq_zero_or_one i with h | h <;> simp [h] <;> omega
theorem tmod_odd (i : Nat) : ((Int.tmod (i : Int) 2) == 1) = odd i := by
  unfold odd
  rw [Int.tmod_eq_emod_of_nonneg (by omega)]
  by_cases h : i % 2 = 1
  · rw [decide_eq_true h, beq_iff_eq]; omega
  · rw [decide_eq_false h, beq_eq_false_iff_ne]; omega
theorem dropI (l : List Int) (i : Nat) (h : i < l.length) : l.drop i = l[i] :: l.drop (i + 1) := List.drop_eq_getElem_cons h
theorem spread_l (ns : List Int) (most : Int) (hl : (ns.length : Int) ≤ 1000000000000) (hm : most ≤ 1000000) : ∀ (d k i : Nat) (out : List Bool), i + d = ns.length → d + 1 ≤ k → (out.length : Int) ≤ most →
    flags_Spread.l0 k ns most (!odd i) (i : Int) out = some (sF most (odd i) (decide (i = 0)) (ns.drop i) out) := by
  intro d
  induction d with
  | zero =>
    intro k i out hd hk ho
    obtain ⟨k, rfl⟩ : ∃ m, k = m + 1 := ⟨k - 1, by omega⟩
    unfold flags_Spread.l0
    rw [if_neg (by omega), List.drop_eq_nil_of_le (by omega)]
    rfl
  | succ d ih =>
    intro k i out hd hk ho
    obtain ⟨k, rfl⟩ : ∃ m, k = m + 1 := ⟨k - 1, by omega⟩
    have hi : i < ns.length := by omega
    have hle : 0 ≤ least (decide (i = 0)) := by unfold least; split <;> omega
    unfold flags_Spread.l0
    rw [if_pos (by omega), if_pos (by omega), rd_at ns i hi, dropI ns i hi, mn_i, w64 (n := most - (out.length : Int)) (by omega) (by omega)]
    unfold sF
    by_cases h1 : ns[i] < least (decide (i = 0))
    · rw [if_pos h1, if_pos h1]
    · rw [if_neg h1, if_neg h1]
      by_cases h2 : ns[i] > most - (out.length : Int)
      · rw [if_pos h2, if_pos h2]
      · rw [if_neg h2, if_neg h2]
        unfold slices_Repeat_bool_bool.f
        rw [if_pos (by simp), if_pos (by omega)]
        simp only [Option.bind_some, List.length_replicate, Bool.not_not]
        rw [if_pos (by omega), w64 (by omega) (by omega), show rdOf false [odd i] 0 = odd i from rfl, show (i : Int) + 1 = ((i + 1 : Nat) : Int) by omega]
        have := ih k (i + 1) (out ++ List.replicate ns[i].toNat (odd i)) (by omega) (by omega) (by rw [List.length_append, List.length_replicate]; omega)
        rw [odd_succ, Bool.not_not] at this
        rw [this]
        simp
theorem repb_add (n : Nat) (x : Bool) (out : List Bool) : out ++ [x] ++ List.replicate n x = out ++ List.replicate (n + 1) x := by
  rw [List.append_assoc, List.replicate_succ]; rfl
theorem ref_l1' (ns : List Int) (most : Int) (i : Nat) (hi : i < ns.length) (hl : (ns.length : Int) ≤ 1000000000000) (hf : ns[i] ≤ 1000000) : ∀ (d k : Nat) (out : List Bool) (j : Int), 0 ≤ j → j + d = ns[i] → d + 1 ≤ k → (out.length : Int) + d ≤ 1000000 →
    bonsairef07_Spread.l1 k ns most out (i : Int) j = bonsairef07_Spread.l0 (k - (d + 1)) ns most (out ++ List.replicate d (odd i)) ((i + 1 : Nat) : Int) := by
  intro d
  induction d with
  | zero =>
    intro k out j h0 hd hk ho
    obtain ⟨k, rfl⟩ : ∃ m, k = m + 1 := ⟨k - 1, by omega⟩
    unfold bonsairef07_Spread.l1
    rw [if_pos (by omega), if_pos (by omega), rd_at ns i hi, if_neg (by omega), w64 (by omega) (by omega)]
    simp
  | succ d ih =>
    intro k out j h0 hd hk ho
    obtain ⟨k, rfl⟩ : ∃ m, k = m + 1 := ⟨k - 1, by omega⟩
    unfold bonsairef07_Spread.l1
    rw [if_pos (by omega), if_pos (by omega), rd_at ns i hi, if_pos (by omega), if_pos (by omega), w64 (n := j + 1) (by omega) (by omega), tmod_odd]
    rw [ih k _ (j + 1) (by omega) (by omega) (by omega) (by simp; omega), repb_add]
    congr 1
    omega
theorem refSpread_l' (ns : List Int) (most : Int) (hl : (ns.length : Int) ≤ 1000000000000) (hm : most ≤ 1000000) (K : Nat) (hK : 1000004 ≤ K) : ∀ (d k i : Nat) (out : List Bool), i + d = ns.length → d * K + 1 ≤ k → (out.length : Int) ≤ most →
    bonsairef07_Spread.l0 k ns most out (i : Int) = some (sF most (odd i) (decide (i = 0)) (ns.drop i) out) := by
  intro d
  induction d with
  | zero =>
    intro k i out hd hk ho
    obtain ⟨k, rfl⟩ : ∃ m, k = m + 1 := ⟨k - 1, by omega⟩
    unfold bonsairef07_Spread.l0
    rw [if_neg (by omega), List.drop_eq_nil_of_le (by omega)]
    rfl
  | succ d ih =>
    intro k i out hd hk ho
    rw [Nat.succ_mul] at hk
    generalize d * K = D at hk ih
    obtain ⟨k, rfl⟩ : ∃ m, k = m + 2 := ⟨k - 2, by omega⟩
    have hi : i < ns.length := by omega
    unfold bonsairef07_Spread.l0
    rw [if_pos (by omega), if_pos (by omega), rd_at ns i hi, dropI ns i hi, w64 (n := most - (out.length : Int)) (by omega) (by omega)]
    have hj : ∀ X : Bool, X = decide (ns[i] < least (decide (i = 0)) ∨ ns[i] > most - (out.length : Int)) → 0 ≤ ns[i] ∨ X = true → bonsairef07_Spread.j2 (k + 1) ns most out (i : Int) X = some (sF most (odd i) (decide (i = 0)) (ns[i] :: ns.drop (i + 1)) out) := by
      rintro X hX h0
      unfold sF
      simp only [bonsairef07_Spread.j2]
      by_cases h1 : ns[i] < least (decide (i = 0))
      · rw [if_pos h1, if_pos (by rw [hX]; exact decide_eq_true (.inl h1))]
      · rw [if_neg h1]
        by_cases h2 : ns[i] > most - (out.length : Int)
        · rw [if_pos h2, if_pos (by rw [hX]; exact decide_eq_true (.inr h2))]
        · have hXf : X = false := by rw [hX]; exact decide_eq_false (fun h => h.elim h1 h2)
          rw [if_neg h2, if_neg (by rw [hXf]; simp)]
          have h0 : 0 ≤ ns[i] := h0.elim id (fun h => by rw [hXf] at h; cases h)
          rw [ref_l1' ns most i hi hl (by omega) ns[i].toNat k out 0 (by omega) (by omega) (by omega) (by omega)]
          rw [ih _ (i + 1) _ (by omega) (by omega) (by rw [List.length_append, List.length_replicate]; omega), odd_succ]
          simp
    by_cases h1 : ns[i] < 0
    · rw [if_pos h1]
      refine hj true ?_ (.inr rfl)
      symm
      refine decide_eq_true (.inl ?_)
      unfold least
      split <;> omega
    · rw [if_neg h1]
      by_cases h2 : ns[i] = 0
      · rw [if_pos h2]
        by_cases h3 : (i : Int) > 0
        · rw [if_pos h3]
          refine hj true ?_ (.inr rfl)
          symm
          refine decide_eq_true (.inl ?_)
          unfold least
          rw [if_neg (by simp; omega)]
          omega
        · rw [if_neg h3]
          refine hj _ ?_ (.inl (by omega))
          have hl0 : least (decide (i = 0)) = 0 := by unfold least; rw [if_pos (by simp; omega)]
          rw [decide_eq_decide, hl0]
          omega
      · rw [if_neg h2]
        refine hj _ ?_ (.inl (by omega))
        rw [decide_eq_decide]
        unfold least
        split <;> omega
open Classical in
noncomputable def spreadTo (ns : List Int) (most : Int) : List Bool × Bool := if MayF ns ∧ 0 ≤ most ∧ ((sp false ns).length : Int) ≤ most then (sp false ns, true) else ([], false)
theorem spread_some (ns : List Int) (most : Int) (hl : (ns.length : Int) ≤ 1000000000000) (hm : most ≤ 1000000) (hm0 : -9223372036854775808 ≤ most) (k K : Nat) (hK : 1000004 ≤ K) (hk : ns.length * K + ns.length + 3 ≤ k) :
    flags_Spread.f k ns most = some (spreadTo ns most) ∧ bonsairef07_Spread.f k ns most = some (spreadTo ns most) := by
  obtain ⟨k, rfl⟩ : ∃ m, k = m + 1 := ⟨k - 1, by omega⟩
  unfold flags_Spread.f bonsairef07_Spread.f
  have no : ¬ (MayF ns ∧ 0 ≤ most ∧ ((sp false ns).length : Int) ≤ most) → spreadTo ns most = ([], false) := fun h => by unfold spreadTo; rw [if_neg h]
  by_cases h1 : most < 0
  · rw [if_pos h1, if_pos h1, no (fun h => by have := h.2.1; omega)]
    exact ⟨rfl, rfl⟩
  · rw [if_neg h1, if_neg h1]
    have go : ¬ (ns.length = 1 ∧ rd ns 0 = 0) → sF most false true ns [] = spreadTo ns most := fun hne => by
      rw [sF_is most ns false true [] (by simp; omega)]
      unfold spreadTo
      have hiff : (Ok true ns ∧ (([] : List Bool).length : Int) + ((sp false ns).length : Int) ≤ most) ↔ (MayF ns ∧ 0 ≤ most ∧ ((sp false ns).length : Int) ≤ most) := by
        simp only [List.length_nil]
        constructor
        · rintro ⟨h2, h3⟩
          refine ⟨?_, by omega, by omega⟩
          cases ns with
          | nil => exact .inl rfl
          | cons n t =>
            refine .inr ⟨n, t, rfl, ?_, h2.2, fun h4 => hne ⟨by rw [h4.2]; rfl, h4.1⟩⟩
            have := h2.1
            simpa [least] using this
        · rintro ⟨h2, h3, h4⟩
          refine ⟨?_, by omega⟩
          rcases h2 with rfl | ⟨n, t, rfl, h5, h6, _⟩
          · trivial
          · exact ⟨by simpa [least] using h5, h6⟩
      by_cases hc : Ok true ns ∧ (([] : List Bool).length : Int) + ((sp false ns).length : Int) ≤ most
      · rw [if_pos hc, if_pos (hiff.mp hc), List.nil_append]
      · rw [if_neg hc, if_neg (fun h => hc (hiff.mpr h))]
    have e1 : flags_Spread.l0 (k + 1) ns most true 0 [] = some (sF most false true ns []) := spread_l ns most hl hm ns.length (k + 1) 0 [] (by omega) (by omega) (by simp; omega)
    have e2 : bonsairef07_Spread.l0 k ns most [] 0 = some (sF most false true ns []) := refSpread_l' ns most hl hm K hK ns.length k 0 [] (by omega) (by omega) (by simp; omega)
    by_cases h2 : ns.length = 1 ∧ rd ns 0 = 0
    · rw [if_pos h2, if_pos (by omega), if_pos (by omega), h2.2]
      simp only [bonsairef07_Spread.j0, beq_self_eq_true, if_true]
      rw [no ?_]
      · exact ⟨rfl, rfl⟩
      · rintro ⟨h3, _, _⟩
        rcases h3 with rfl | ⟨n, t, rfl, _, _, h4⟩
        · simp at h2
        · have ht : t = [] := by have := h2.1; simp only [List.length_cons] at this; exact List.length_eq_zero_iff.mp (by omega)
          exact h4 ⟨by have := h2.2; simpa [rd] using this, ht⟩
    · rw [if_neg h2, e1, go h2]
      refine ⟨rfl, ?_⟩
      by_cases h3 : (ns.length : Int) = 1
      · rw [if_pos h3, if_pos (by omega)]
        have h4 : rd ns 0 ≠ 0 := fun h => h2 ⟨by omega, h⟩
        simp only [bonsairef07_Spread.j0]
        rw [if_neg (by simpa using h4), e2, go h2]
      · rw [if_neg h3]
        simp only [bonsairef07_Spread.j0, Bool.false_eq_true, if_false]
        rw [e2, go h2]
def cnt (l : List Bool) : Int := ((l.filter id).length : Int)
theorem cnt_cons (x : Bool) (l : List Bool) : cnt (x :: l) = (if x = true then 1 else 0) + cnt l := by
  unfold cnt
  cases x <;> simp <;> omega
theorem dropB (l : List Bool) (i : Nat) (h : i < l.length) : l.drop i = l[i] :: l.drop (i + 1) := List.drop_eq_getElem_cons h
theorem count_l (l : List Bool) (hl : (l.length : Int) ≤ 1000000000000) : ∀ (d k i : Nat) (n : Int), i + d = l.length → d + 1 ≤ k → 0 ≤ n → n ≤ i →
    flags_Count.l0 k n l (l.length : Int) (i : Int) = some (n + cnt (l.drop i)) ∧ bonsairef07_Count.l0 k l n (i : Int) = some (n + cnt (l.drop i)) := by
  intro d
  induction d with
  | zero =>
    intro k i n hd hk h0 hn
    obtain ⟨k, rfl⟩ : ∃ m, k = m + 1 := ⟨k - 1, by omega⟩
    constructor
    · unfold flags_Count.l0
      rw [if_neg (by omega), List.drop_eq_nil_of_le (by omega)]
      simp [cnt]
    · unfold bonsairef07_Count.l0
      rw [if_neg (by omega), List.drop_eq_nil_of_le (by omega)]
      simp [cnt]
  | succ d ih =>
    intro k i n hd hk h0 hn
    obtain ⟨k, rfl⟩ : ∃ m, k = m + 1 := ⟨k - 1, by omega⟩
    have hi : i < l.length := by omega
    have h1 : wrap64 ((i : Int) + 1) = ((i + 1 : Nat) : Int) := by rw [w64 (by omega) (by omega)]; omega
    have h2 : wrap64 (n + 1) = n + 1 := w64 (by omega) (by omega)
    rw [dropB l i hi, cnt_cons]
    constructor
    · unfold flags_Count.l0
      rw [if_pos (by omega), if_pos (by omega), if_pos (by omega), rdb_at l i hi, h1, h2]
      by_cases hx : l[i] = true
      · rw [if_pos hx, if_pos hx, (ih k (i + 1) (n + 1) (by omega) (by omega) (by omega) (by omega)).1, Int.add_assoc]
      · rw [if_neg hx, if_neg hx, (ih k (i + 1) n (by omega) (by omega) (by omega) (by omega)).1, Int.zero_add]
    · unfold bonsairef07_Count.l0
      rw [if_pos (by omega), if_pos (by omega), rdb_at l i hi, h1, h2]
      by_cases hx : l[i] = true
      · rw [if_pos hx, if_pos hx, (ih k (i + 1) (n + 1) (by omega) (by omega) (by omega) (by omega)).2, Int.add_assoc]
      · rw [if_neg hx, if_neg hx, (ih k (i + 1) n (by omega) (by omega) (by omega) (by omega)).2, Int.zero_add]
theorem count_some (l : List Bool) (hl : (l.length : Int) ≤ 1000000000000) (k : Nat) (hk : l.length + 1 ≤ k) : flags_Count.f k l = some (cnt l) ∧ bonsairef07_Count.f k l = some (cnt l) := by
  have := count_l l hl l.length k 0 0 (by omega) (by omega) (by omega) (by omega)
  simp only [Int.natCast_zero, List.drop_zero, Int.zero_add] at this
  exact this
noncomputable def encN : List Int → ByteArray
  | [] => noText
  | n :: ns => put n ++ encN ns
def WfN (ns : List Int) : Prop := ∀ n ∈ ns, 0 ≤ n ∧ n < 9223372036854775808
theorem enc_g' (k : Nat) (hk : 10 ≤ k) : ∀ (l : List Int) (acc : ByteArray), WfN l → acc.size + 10 * l.length ≤ 140737488355328 → flags_Encode.g k l acc = some (acc ++ encN l)
  | [], acc, _, _ => by simp only [flags_Encode.g, encN, app_no]
  | x :: xs, acc, hw, hs => by
    have hx := hw x List.mem_cons_self
    have h0 := put_size x
    simp only [List.length_cons] at hs
    unfold flags_Encode.g
    rw [w64' hx.1 (by omega), (put_both x hx.1 (by omega) k hk).1]
    simp only [Option.bind_some]
    rw [if_pos (by omega), enc_g' k hk xs _ (fun r hr => hw r (List.mem_cons_of_mem _ hr)) (by simp only [ByteArray.size_append]; omega)]
    simp only [encN, ByteArray.append_assoc]
theorem refEnc_l' (ns : List Int) (hl : (ns.length : Int) ≤ 1000000000000) (hw : WfN ns) : ∀ (d k i : Nat) (acc : ByteArray), i + d = ns.length → d + 11 ≤ k → acc.size + 10 * d ≤ 9223372036854775807 →
    bonsairef07_Encode.l0 k ns acc (i : Int) = some (acc ++ encN (ns.drop i)) := by
  intro d
  induction d with
  | zero =>
    intro k i acc hd hk hs
    obtain ⟨k, rfl⟩ : ∃ m, k = m + 1 := ⟨k - 1, by omega⟩
    unfold bonsairef07_Encode.l0
    rw [if_neg (by omega), List.drop_eq_nil_of_le (by omega)]
    simp only [encN, app_no]
  | succ d ih =>
    intro k i acc hd hk hs
    obtain ⟨k, rfl⟩ : ∃ m, k = m + 1 := ⟨k - 1, by omega⟩
    have hi : i < ns.length := by omega
    have hx := hw ns[i] (List.getElem_mem hi)
    have h0 := put_size ns[i]
    unfold bonsairef07_Encode.l0
    rw [if_pos (by omega), if_pos (by omega), rd_at ns i hi, w64' hx.1 (by omega), (put_both ns[i] hx.1 (by omega) k (by omega)).2]
    simp only [Option.bind_some]
    rw [if_pos (by omega), w64 (by omega) (by omega), show (i : Int) + 1 = ((i + 1 : Nat) : Int) by omega]
    rw [ih k (i + 1) _ (by omega) (by omega) (by simp only [ByteArray.size_append]; omega), dropI ns i hi]
    simp only [encN, ByteArray.append_assoc]
theorem sum_ge : ∀ (ns : List Int) (c : Bool), (∀ n ∈ ns, 0 ≤ n) → ∀ n ∈ ns, n ≤ ((sp c ns).length : Int)
  | [], _, _, n, hn => by simp at hn
  | m :: ns, c, h, n, hn => by
    have h0 := h m List.mem_cons_self
    unfold sp
    rw [List.length_append, List.length_replicate]
    rcases List.mem_cons.mp hn with rfl | hn
    · omega
    · have := sum_ge ns (!c) (fun x hx => h x (List.mem_cons_of_mem _ hx)) n hn
      omega
theorem may_nonneg {ns : List Int} (h : MayF ns) : ∀ n ∈ ns, 0 ≤ n := fun n hn => by
  rcases h with rfl | ⟨m, t, rfl, h0, hp, _⟩
  · simp at hn
  · rcases List.mem_cons.mp hn with rfl | hn
    · exact h0
    · have := hp n hn; omega
theorem wf_lens {l : List Bool} (hl : (l.length : Int) ≤ 1000000000000) : WfN (lens l) := fun n hn => by
  have h0 := may_nonneg (may_lens l)
  have := sum_ge (lens l) false h0 n hn
  rw [sp_lens] at this
  have := h0 n hn
  omega
theorem enc_some' (l : List Bool) (hl : (l.length : Int) ≤ 1000000000) (k : Nat) (hk : 5 * l.length + 20 ≤ k) : flags_Encode.f k l = some (encN (lens l)) ∧ bonsairef07_Encode.f k l = some (encN (lens l)) := by
  have hw := wf_lens (l := l) (by omega)
  have hn := len_lens l
  have he : ByteArray.empty = noText := rfl
  have h0 : noText.size = 0 := rfl
  constructor
  · unfold flags_Encode.f
    rw [lengths_some l (by omega) k (by omega)]
    simp only [Option.bind_some]
    rw [if_pos (by omega), enc_g' k (by omega) _ _ hw (by rw [he, h0]; omega), he, no_app]
  · unfold bonsairef07_Encode.f
    rw [refLengths_some l (by omega) k (by omega)]
    simp only [Option.bind_some]
    have := refEnc_l' (lens l) (by omega) hw (lens l).length k 0 noText (by omega) (by omega) (by rw [h0]; omega)
    simp only [Int.natCast_zero, List.drop_zero, no_app] at this
    exact this
end Go.Proofs.Ytbgjoiccehiglaa.LibI
end
section
namespace Go.Proofs.Ytbgjoiccehiglaa.LibJ
open Go.RowKit Go.Proofs.Ytbgjoiccehiglaa.Print Go.Proofs.YtbgjoiccehiglaaW.PrintWords Go.Proofs.YtbgjoiccehiglaaW.PrintLast Go.Proofs.YtbgjoiccehiglaaW.PrintMore Go.Proofs.Ytbgjoiccehiglaa.LibU Go.Proofs.Ytbgjoiccehiglaa.LibV Go.Proofs.Ytbgjoiccehiglaa.LibD Go.Proofs.Ytbgjoiccehiglaa.LibE Go.Proofs.Ytbgjoiccehiglaa.LibG Go.Proofs.Ytbgjoiccehiglaa.LibH Go.Proofs.Ytbgjoiccehiglaa.LibI
open Go.Proofs.Ytbgjoiccehiglaa.LibW (put put_size no_app app_no rd_at)
open Go.Proofs.Ytbgjoiccehiglaa.LibX (numT num_numT numT_size numT_range numT_put numT_was noText_of num_err w64')
theorem live07 : bonsailaw07_live.f 60 = some true := by decide +kernel
theorem live07_at {k : Nat} (hk : 60 ≤ k) : bonsailaw07_live.f k = some true := at_rounds (g := bonsailaw07_live.f) (fun k => bonsailaw07_live.mono k) hk live07
theorem same_l (a : List Bool) (hl : (a.length : Int) ≤ 1000000000000) : ∀ (d k i : Nat), i + d = a.length → d + 1 ≤ k → bonsairef07_Same.l0 k a a (i : Int) = some true := by
  intro d
  induction d with
  | zero =>
    intro k i hd hk
    obtain ⟨k, rfl⟩ : ∃ m, k = m + 1 := ⟨k - 1, by omega⟩
    unfold bonsairef07_Same.l0
    rw [if_neg (by omega)]
  | succ d ih =>
    intro k i hd hk
    obtain ⟨k, rfl⟩ : ∃ m, k = m + 1 := ⟨k - 1, by omega⟩
    unfold bonsairef07_Same.l0
    rw [if_pos (by omega), if_pos (by omega), if_pos (by omega), if_neg (by simp), w64 (by omega) (by omega), show (i : Int) + 1 = ((i + 1 : Nat) : Int) by omega]
    exact ih k (i + 1) (by omega) (by omega)
theorem same_self (a : List Bool) (hl : (a.length : Int) ≤ 1000000000000) (k : Nat) (hk : a.length + 1 ≤ k) : bonsairef07_Same.f k a a = some true := by
  unfold bonsairef07_Same.f
  rw [if_pos rfl]
  exact same_l a hl a.length k 0 (by omega) hk
theorem same5_l (a : List Int) (hl : (a.length : Int) ≤ 1000000000000) : ∀ (d k i : Nat), i + d = a.length → d + 1 ≤ k → bonsairef05_Same.l0 k a a (i : Int) = some true := by
  intro d
  induction d with
  | zero =>
    intro k i hd hk
    obtain ⟨k, rfl⟩ : ∃ m, k = m + 1 := ⟨k - 1, by omega⟩
    unfold bonsairef05_Same.l0
    rw [if_neg (by omega)]
  | succ d ih =>
    intro k i hd hk
    obtain ⟨k, rfl⟩ : ∃ m, k = m + 1 := ⟨k - 1, by omega⟩
    unfold bonsairef05_Same.l0
    rw [if_pos (by omega), if_pos (by omega), if_pos (by omega), if_pos rfl, w64 (by omega) (by omega), show (i : Int) + 1 = ((i + 1 : Nat) : Int) by omega]
    exact ih k (i + 1) (by omega) (by omega)
theorem same5_self (a : List Int) (hl : (a.length : Int) ≤ 1000000000000) (k : Nat) (hk : a.length + 1 ≤ k) : bonsairef05_Same.f k a a = some true := by
  unfold bonsairef05_Same.f
  rw [if_pos rfl]
  exact same5_l a hl a.length k 0 (by omega) hk
end Go.Proofs.Ytbgjoiccehiglaa.LibJ
end
section
namespace Go.Proofs.Ytbgjoiccehiglaa.Pure
open Go.RowKit Go.Proofs.Ytbgjoiccehiglaa.Print Go.Proofs.YtbgjoiccehiglaaW.PrintWords Go.Proofs.YtbgjoiccehiglaaW.PrintLast Go.Proofs.YtbgjoiccehiglaaW.PrintMore Go.Proofs.Ytbgjoiccehiglaa.LibV Go.Proofs.Ytbgjoiccehiglaa.LibH Go.Proofs.Ytbgjoiccehiglaa.LibI Go.Proofs.Ytbgjoiccehiglaa.LibJ
theorem i64_of {n : Int} (h : (Lit.int .i64 n).wf = true) : -9223372036854775808 ≤ n ∧ n ≤ 9223372036854775807 := by
  simp [Lit.wf, IntKind.min, IntKind.max, IntKind.bits, IntKind.signed] at h
  omega
theorem FlagsTells : ∀ (l0 : List Bool) (l1 : List Int) (a2 : Int), l0.length ≤ maxLen → l1.length ≤ maxLen → (∀ x ∈ l1, (Lit.int .i64 x).wf = true) → (Lit.int .i64 a2).wf = true → ∃ k, bonsailaw07_FlagsTells.f k l0 l1 a2 = some true := by
  intro l ns most _ _ _ hm
  have hmo := i64_of hm
  obtain ⟨K, hK⟩ : ∃ K : Nat, 1000004 ≤ K := ⟨1000004, Nat.le_refl _⟩
  obtain ⟨M, hM⟩ : ∃ M : Nat, M = 40 * K + 9000 := ⟨_, rfl⟩
  refine ⟨M + 1, ?_⟩
  unfold bonsailaw07_FlagsTells.f
  have yes : bonsailaw07_FlagsTells.j0 (M + 1) l ns most true = some true := by
    simp only [bonsailaw07_FlagsTells.j0, if_true]
    rw [live07_at (by omega)]; rfl
  by_cases h1 : (l.length : Int) > 200
  · rw [if_pos h1]; exact yes
  rw [if_neg h1]
  by_cases h2 : (ns.length : Int) > 40
  · rw [if_pos h2]; exact yes
  rw [if_neg h2]
  by_cases h3 : most > 300
  · rw [decide_eq_true h3]; exact yes
  rw [decide_eq_false h3]
  simp only [bonsailaw07_FlagsTells.j0, Bool.false_eq_true, if_false]
  have hmul : ns.length * K ≤ 40 * K := Nat.mul_le_mul_right K (by omega)
  obtain ⟨s1, s2⟩ := spread_some ns most (by omega) (by omega) (by omega) M K hK (by omega)
  have e := enc_some' l (by omega) M (by omega)
  have c := count_some l (by omega) M (by omega)
  have rl := len_lens l
  rw [s1, s2, lengths_some l (by omega) M (by omega), refLengths_some l (by omega) M (by omega)]
  simp only [Option.bind_some]
  rw [same5_self _ (by omega) M (by omega), e.1, e.2, c.1, c.2]
  simp only [Option.bind_some, if_true, beq_self_eq_true]
  have hz : ((spreadTo ns most).1.length : Int) ≤ 300 := by
    unfold spreadTo
    split
    · rename_i h; have := h.2; simp only; omega
    · simp
  rw [same_self _ (by omega) M (by omega), live07_at (by omega)]
  simp
end Go.Proofs.Ytbgjoiccehiglaa.Pure
end
section
namespace Go.Proofs.Ytbgjoiccehiglaa.flagsTells
open Go.ChangeShapes Go.WideShapes Go.ChangeAt Go.RowKit Go.Proofs.YtbgjoiccehiglaaW.PrintWords
open Go.ChangeMaps (open_string shut_string)
set_option linter.unusedVariables false
theorem own : ownKnob Try.prog.godebug = none := by kernel_rfl
theorem laidOut : laidOutB Try.prog = true := by kernel_rfl
set_option maxRecDepth 100000 in
theorem lifted (os : Os) (started : os.Started) (H : Type) (enc : TypeId × Value → H) :
    ReturnsInHanded {} Try.checked os 14 .any (Rows.flagsTellsSpec.pre6 enc Try.prog Try.f14 Rows.flagsTellsRow.domain false) (Rows.flagsTellsSpec.post enc Try.prog Try.f14 false true false false) := by
  refine returnsInHanded_of_change_sized (C := Try.checked) own started (by kernel_rfl) Try.func14
    (ChangeSpec.witness6 (enc := enc) (C := Try.checked) false ⟨#[], #[.slice none 0 0, .slice none 0 0, .int .i64 0], []⟩ 8 (by kernel_rfl) (by kernel_rfl) (by kernel_rfl) (by kernel_rfl)) ?_
  intro W base args ds gs before hval0 hW hcnd hsz0 _
  have hsz : (DataW.weightsEach Try.prog (Try.f14.params.toList ++ Rows.flagsTellsSpec.plain.varTypes Try.prog) (ds ++ gs)).all (· ≤ reachBytes) = true := hsz0
  have hval : ∀ (j : Nat) t v, Try.f14.params[j]? = some t → args[j]? = some v → Value.okWide Try.prog W .any base t v := hval0
  have hW' := hW
  obtain ⟨p, q, hA0, hV, rfl, hfz, hnd⟩ := hW
  have hA : DataW.TrodAll enc Try.prog W 0 (fun _ => true) true Try.f14.params.toList args.toList ds p := hA0
  rw [Try.params14] at hA hval hsz
  obtain ⟨v0, vs0, d0, ds0, p0, q0, hargs, rfl, rfl, h0, r0⟩ := trodAll_cons hA
  obtain ⟨v1, vs1, d1, ds1, p1, q1, rfl, rfl, rfl, h1, r1⟩ := trodAll_cons r0
  obtain ⟨v2, vs2, d2, ds2, p2, q2, rfl, rfl, rfl, h2, r2⟩ := trodAll_cons r1
  obtain ⟨rfl, rfl, rfl⟩ := trodAll_nil r2
  obtain rfl : args = #[v0, v1, v2] := by cases args; simp_all
  obtain ⟨rfl, rfl⟩ := trodVars_none hV
  obtain ⟨a0, len0, cap0, rfl⟩ := okWide_slice Try.underlying55 (hval 0 55 v0 rfl rfl)
  have k0 := h0
  have lt0 : ∀ x ∈ p0, x.block < W.heap.size := by obtain ⟨m, hm⟩ := k0; exact DataW.trod_lt m _ _ _ hm
  obtain ⟨l0, rfl, hc0, hm0, hr0, hq0⟩ := LibO.arg_slice (d := Kd.bool) Try.underlying55 (by kernel_rfl) (LibO.opens_bool Try.underlying4) h0
  obtain ⟨a1, len1, cap1, rfl⟩ := okWide_slice Try.underlying56 (hval 1 56 v1 rfl rfl)
  have k1 := h1
  have lt1 : ∀ x ∈ p1, x.block < W.heap.size := by obtain ⟨m, hm⟩ := k1; exact DataW.trod_lt m _ _ _ hm
  obtain ⟨l1, rfl, hc1, hm1, hr1, hq1⟩ := LibO.arg_slice (d := (Kd.int .i64)) Try.underlying56 (by kernel_rfl) (LibO.opens_int Try.underlying3) h1
  obtain ⟨a2, rfl, rfl, rfl, w2⟩ := open_int Try.underlying3 (hval 2 3 v2 rfl rfl) h2
  clear hA0 hval0 hsz0 hsz
  obtain ⟨k, hk⟩ := Pure.FlagsTells l0 l1 a2 hm0 hm1 hq1 w2
  refine (Print.bonsailaw07_FlagsTells.calls k a0 cap0 l0 a1 cap1 l1 a2 true W hr0 hc0 hr1 hc1 hk).mono fun e W' ⟨he, bel⟩ => ?_
  subst he
  exact ⟨_, rfl, _, _, _, [], _, [], hW', trodAll_mk1 (shut_bool Try.underlying4 _), (trodAll_cons_mk (Below.trod laidOut (by kernel_rfl) (of_decide_eq_true (by kernel_rfl)) k0 bel lt0) (trodAll_cons_mk (Below.trod laidOut (by kernel_rfl) (of_decide_eq_true (by kernel_rfl)) k1 bel lt1) (trodAll_cons_mk (shut_int Try.underlying3 w2) trodAll_mk0))), rfl, bel.frame _, fun h => by cases h⟩
theorem over : Rows.flagsTellsRow.holds Try.pinned (OpenSpec.ofChange Rows.flagsTellsSpec) :=
  OpenClaim.holds_of_wide 14 Try.f14 rfl rfl rfl rfl rfl rfl rfl ⟨rfl, rfl, rfl, rfl, rfl⟩ rfl rfl rfl rfl rfl (by kernel_rfl) Try.func14 (by kernel_rfl)
    (of_decide_eq_true (by kernel_rfl)) (by unfold Func.isWrapper; first | (rw [if_pos (by decide +kernel)]; kernel_rfl) | (rw [if_neg (by decide +kernel)]; exact ⟨rfl, rfl⟩))
    (fun os started H enc _ => lifted os started H enc)
theorem proved : Rows.FlagsTellsSaid := over
#print axioms proved
end Go.Proofs.Ytbgjoiccehiglaa.flagsTells
namespace Go.Proofs.Ytbgjoiccehiglaa
theorem flagsTells_holds : Rows.FlagsTellsSaid := flagsTells.proved
end Go.Proofs.Ytbgjoiccehiglaa
end
