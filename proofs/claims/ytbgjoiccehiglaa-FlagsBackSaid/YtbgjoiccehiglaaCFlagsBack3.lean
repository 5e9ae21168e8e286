/- What is encoded is decoded, by its own length alone; lengths spread to the list; what is decoded is what was encoded: of at most 200 flags, 500 bytes. -/
import Derived.Test.YtbgjoiccehiglaaRows
import Derived.WalkKit
import Derived.ProofKit
import Derived.OpenShut
import Derived.ShutString
import Derived.ChangeOld
import Derived.Below
import Derived.SizedLaws
import Derived.Test.YtbgjoiccehiglaaCFlagsBack2
section
namespace Go.Proofs.Ytbgjoiccehiglaa.LibH
open Go.RowKit Go.Proofs.Ytbgjoiccehiglaa.Print Go.Proofs.YtbgjoiccehiglaaW.PrintWords Go.Proofs.YtbgjoiccehiglaaW.PrintLast Go.Proofs.YtbgjoiccehiglaaW.PrintMore Go.Proofs.Ytbgjoiccehiglaa.LibU Go.Proofs.Ytbgjoiccehiglaa.LibV Go.Proofs.Ytbgjoiccehiglaa.LibW Go.Proofs.Ytbgjoiccehiglaa.LibX Go.Proofs.Ytbgjoiccehiglaa.LibD Go.Proofs.Ytbgjoiccehiglaa.LibE Go.Proofs.Ytbgjoiccehiglaa.LibG
def fl : Bool → List Bool → Int → List Int
  | _, [], n => [n]
  | c, x :: xs, n => if x = c then fl c xs (n + 1) else n :: fl (!c) xs 1
def lens (l : List Bool) : List Int := if l = [] then [] else fl false l 0
def sp : Bool → List Int → List Bool
  | _, [] => []
  | c, n :: ns => List.replicate n.toNat c ++ sp (!c) ns
def Pos (ns : List Int) : Prop := ∀ n ∈ ns, 1 ≤ n
theorem fl_ne (c : Bool) (l : List Bool) (n : Int) : fl c l n ≠ [] := by
  cases l with
  | nil => simp [fl]
  | cons x xs =>
    unfold fl
    split
    · exact fl_ne c xs (n + 1)
    · simp
theorem fl_pos : ∀ (l : List Bool) (c : Bool) (n : Int), 1 ≤ n → Pos (fl c l n)
  | [], c, n, h => fun m hm => by simp [fl] at hm; omega
  | x :: xs, c, n, h => by
    unfold fl
    split
    · exact fl_pos xs c (n + 1) (by omega)
    · intro m hm
      rcases List.mem_cons.mp hm with rfl | hm
      · exact h
      · exact fl_pos xs _ 1 (by omega) m hm
theorem sp_fl : ∀ (l : List Bool) (c : Bool) (n : Int), 0 ≤ n → sp c (fl c l n) = List.replicate n.toNat c ++ l
  | [], c, n, h => by simp [fl, sp]
  | x :: xs, c, n, h => by
    unfold fl
    split
    · rename_i hx
      rw [sp_fl xs c (n + 1) (by omega), show (n + 1).toNat = n.toNat + 1 by omega, List.replicate_succ', hx]
      simp
    · rename_i hx
      have hc : x = !c := by cases x <;> cases c <;> simp_all
      unfold sp
      rw [sp_fl xs (!c) 1 (by omega), hc]
      simp
theorem sp_lens (l : List Bool) : sp false (lens l) = l := by
  unfold lens
  split
  · rename_i h; rw [h]; rfl
  · rw [sp_fl l false 0 (by omega)]; simp
theorem fl_rep : ∀ (k : Nat) (c : Bool) (l : List Bool) (n : Int), fl c (List.replicate k c ++ l) n = fl c l (n + k)
  | 0, c, l, n => by simp
  | k + 1, c, l, n => by
    rw [List.replicate_succ, List.cons_append]
    unfold fl
    rw [if_pos rfl, fl_rep k c l (n + 1)]
    rw [show n + 1 + (k : Int) = n + ((k + 1 : Nat) : Int) by omega]
    cases l <;> rfl
theorem fl_sp : ∀ (ns : List Int) (c : Bool) (n : Int), Pos ns → fl c (sp (!c) ns) n = n :: ns
  | [], c, n, _ => by simp [sp, fl]
  | m :: ns, c, n, h => by
    have hm := h m List.mem_cons_self
    unfold sp
    rw [show m.toNat = (m.toNat - 1) + 1 by omega, List.replicate_succ, List.cons_append]
    unfold fl
    rw [if_neg (by cases c <;> simp), fl_rep]
    have := fl_sp ns (!c) (1 + ((m.toNat - 1 : Nat) : Int)) (fun x hx => h x (List.mem_cons_of_mem _ hx))
    rw [this, show 1 + ((m.toNat - 1 : Nat) : Int) = m by omega]
def MayF (ns : List Int) : Prop := ns = [] ∨ ∃ n t, ns = n :: t ∧ 0 ≤ n ∧ Pos t ∧ ¬ (n = 0 ∧ t = [])
theorem sp_len : ∀ (ns : List Int) (c : Bool), (∀ n ∈ ns, 0 ≤ n) → ((sp c ns).length : Int) = ns.foldr (· + ·) 0
  | [], c, _ => rfl
  | n :: ns, c, h => by
    have h0 := h n List.mem_cons_self
    unfold sp
    rw [List.length_append, List.length_replicate, List.foldr_cons, ← sp_len ns (!c) (fun x hx => h x (List.mem_cons_of_mem _ hx))]
    omega
theorem may_lens (l : List Bool) : MayF (lens l) := by
  unfold lens
  split
  · exact .inl rfl
  · rename_i h
    cases l with
    | nil => exact absurd rfl h
    | cons x xs =>
      right
      unfold fl
      split
      · have hp := fl_pos xs false (0 + 1) (by omega)
        cases hf : fl false xs (0 + 1) with
        | nil => exact absurd hf (fl_ne _ _ _)
        | cons n t =>
          rw [hf] at hp
          have := hp n List.mem_cons_self
          exact ⟨n, t, rfl, by omega, fun m hm => hp m (List.mem_cons_of_mem _ hm), by omega⟩
      · exact ⟨0, _, rfl, by omega, fl_pos xs _ 1 (by omega), fun h => fl_ne _ _ _ h.2⟩
theorem lens_sp {ns : List Int} (h : MayF ns) : lens (sp false ns) = ns := by
  rcases h with rfl | ⟨n, t, rfl, h0, hp, hn⟩
  · rfl
  · have hne : sp false (n :: t) ≠ [] := by
      unfold sp
      intro he
      obtain ⟨h1, h2⟩ := List.append_eq_nil_iff.mp he
      have h3 : n = 0 := by have := congrArg List.length h1; simp at this; omega
      refine hn ⟨h3, ?_⟩
      cases t with
      | nil => rfl
      | cons m t =>
        have := hp m List.mem_cons_self
        unfold sp at h2
        have h4 := congrArg List.length (List.append_eq_nil_iff.mp h2).1
        simp at h4
        omega
    unfold lens
    rw [if_neg hne]
    unfold sp
    rw [fl_rep]
    have := fl_sp t false (0 + (n.toNat : Int)) hp
    rw [this]
    congr 1
    omega
theorem rdb_at (l : List Bool) (i : Nat) (h : i < l.length) : rdOf false l (i : Int) = l[i] := by simp [rdOf, List.getD_eq_getElem?_getD, h]
def lead (c : Bool) : List Bool → Nat
  | [] => 0
  | x :: xs => if x = c then lead c xs + 1 else 0
theorem lead_le (c : Bool) : ∀ l : List Bool, lead c l ≤ l.length
  | [] => Nat.le_refl _
  | x :: xs => by
    have := lead_le c xs
    unfold lead
    split <;> simp <;> omega
theorem lead_split (c : Bool) : ∀ (l : List Bool) (n : Int), fl c l n = (n + lead c l) :: (if l.drop (lead c l) = [] then [] else fl (!c) (l.drop (lead c l)) 0)
  | [], n => by simp [fl, lead]
  | x :: xs, n => by
    show (if x = c then fl c xs (n + 1) else n :: fl (!c) xs 1) = _
    unfold lead
    by_cases hx : x = c
    · have ih := lead_split c xs (n + 1)
      rw [if_pos hx, if_pos hx, ih, List.drop_succ_cons, show n + 1 + (lead c xs : Int) = n + ((lead c xs + 1 : Nat) : Int) by omega]
    · rw [if_neg hx, if_neg hx]
      have hc : x = !c := by cases x <;> cases c <;> simp_all
      simp only [List.drop_zero, Int.natCast_zero, Int.add_zero, if_neg (List.cons_ne_nil x xs)]
      have h2 : fl (!c) (x :: xs) 0 = fl (!c) xs 1 := by
        show (if x = !c then fl (!c) xs (0 + 1) else _) = _
        rw [if_pos hc]
        rfl
      rw [h2]
theorem index_l (c : Bool) (l : List Bool) (hl : (l.length : Int) ≤ 1000000000000) : ∀ (d k i : Nat), i + d = l.length → d + 1 ≤ k →
    slices_Index_bool_bool.l0 k l (!c) (l.length : Int) (i : Int) = some (if lead c (l.drop i) = (l.drop i).length then -1 else ((i + lead c (l.drop i) : Nat) : Int)) := by
  intro d
  induction d with
  | zero =>
    intro k i hd hk
    obtain ⟨k, rfl⟩ : ∃ m, k = m + 1 := ⟨k - 1, by omega⟩
    unfold slices_Index_bool_bool.l0
    rw [if_neg (by omega), List.drop_eq_nil_of_le (by omega)]
    rfl
  | succ d ih =>
    intro k i hd hk
    obtain ⟨k, rfl⟩ : ∃ m, k = m + 1 := ⟨k - 1, by omega⟩
    have hi : i < l.length := by omega
    unfold slices_Index_bool_bool.l0
    rw [if_pos (by omega), if_pos (by omega), if_pos (by omega), rdb_at l i hi, List.drop_eq_getElem_cons hi]
    unfold lead
    by_cases hx : l[i] = c
    · rw [if_neg (by rw [hx]; cases c <;> simp), w64 (by omega) (by omega), show (i : Int) + 1 = ((i + 1 : Nat) : Int) by omega, ih k (i + 1) (by omega) (by omega), if_pos hx]
      congr 1
      by_cases h : lead c (l.drop (i + 1)) = (l.drop (i + 1)).length
      · rw [if_pos h, if_pos (by rw [List.length_cons, h])]
      · rw [if_neg h, if_neg (by rw [List.length_cons]; omega)]
        omega
    · rw [if_pos (by cases c <;> cases h : l[i] <;> simp_all), if_neg hx, if_neg (by simp only [List.length_cons]; omega)]
      rfl
theorem len_l : ∀ (d k : Nat) (b : Bool) (l : List Bool) (out : List Int), 2 * l.length + (if lead (!b) l = 0 then 1 else 0) < d → (l.length : Int) ≤ 1000000000000 → (out.length : Int) + d ≤ 10000000000000 → d + l.length + 1 ≤ k →
    flags_Lengths.l0 k b l out = some (out ++ (if l = [] then [] else fl (!b) l 0)) := by
  intro d
  induction d with
  | zero => intro k b l out hd; omega
  | succ d ih =>
    intro k b l out hd hl ho hk
    obtain ⟨k, rfl⟩ : ∃ m, k = m + 1 := ⟨k - 1, by omega⟩
    unfold flags_Lengths.l0
    by_cases h0 : l = []
    · subst h0
      simp
    · have hpos : 0 < l.length := List.length_pos_iff.mpr h0
      rw [if_pos hpos, if_neg h0]
      unfold slices_Index_bool_bool.f
      have hi := index_l (!b) l hl l.length k 0 (by omega) (by omega)
      simp only [Bool.not_not, Int.natCast_zero, List.drop_zero, Nat.zero_add] at hi
      rw [hi]
      simp only [Option.bind_some]
      have hle := lead_le (!b) l
      rw [lead_split (!b) l 0, Bool.not_not, Int.zero_add]
      by_cases hall : lead (!b) l = l.length
      · rw [if_pos hall, if_pos (by omega), if_pos (by omega)]
        have hd : l.drop (lead (!b) l) = [] := List.drop_eq_nil_of_le (by omega)
        rw [hd, if_pos rfl, hall, List.drop_eq_nil_of_le (Nat.le_refl _)]
        obtain ⟨k, rfl⟩ : ∃ m, k = m + 1 := ⟨k - 1, by omega⟩
        unfold flags_Lengths.l0
        simp
      · rw [if_neg hall, if_neg (by omega), if_pos (by omega), if_pos (by omega), Int.toNat_natCast]
        have hne : l.drop (lead (!b) l) ≠ [] := by
          intro h
          have := congrArg List.length h
          rw [List.length_drop] at this
          simp at this
          omega
        rw [if_neg hne]
        have hdl : (l.drop (lead (!b) l)).length = l.length - lead (!b) l := List.length_drop
        have hm : 2 * (l.drop (lead (!b) l)).length + (if lead (!!b) (l.drop (lead (!b) l)) = 0 then 1 else 0) < d := by
          by_cases hz : lead (!b) l = 0
          · rw [if_pos hz] at hd
            have h1 : lead (!!b) (l.drop (lead (!b) l)) ≠ 0 := by
              rw [hz, List.drop_zero, Bool.not_not]
              cases l with
              | nil => exact absurd rfl h0
              | cons x xs =>
                unfold lead at hz ⊢
                split at hz
                · omega
                · rename_i h
                  rw [if_pos (by cases x <;> cases b <;> simp_all)]
                  omega
            rw [if_neg h1]
            omega
          · rw [if_neg hz] at hd
            split <;> omega
        rw [ih k (!b) (l.drop (lead (!b) l)) _ hm (by omega) (by rw [List.length_append]; simp only [List.length_cons, List.length_nil]; omega) (by omega), if_neg hne, Bool.not_not]
        simp
theorem lengths_some (l : List Bool) (hl : (l.length : Int) ≤ 1000000000000) (k : Nat) (hk : 3 * l.length + 3 ≤ k) : flags_Lengths.f k l = some (lens l) := by
  unfold flags_Lengths.f lens
  have := len_l (2 * l.length + 2) k true l [] (by split <;> omega) hl (by simp; omega) (by omega)
  simpa using this
theorem ref_l1 (l : List Bool) (hl : (l.length : Int) ≤ 1000000000000) (c : Bool) (out : List Int) (ho : (out.length : Int) ≤ 10000000000000) : ∀ (d k i : Nat) (n : Int), i + d = l.length → d + 1 ≤ k → 0 ≤ n → n + d ≤ 1000000000000 →
    bonsairef07_Lengths.l1 k l out c (i : Int) n = bonsairef07_Lengths.l0 (k - (lead c (l.drop i) + 1)) l (out ++ [n + lead c (l.drop i)]) (!c) ((i + lead c (l.drop i) : Nat) : Int) := by
  intro d
  induction d with
  | zero =>
    intro k i n hd hk h0 hn
    obtain ⟨k, rfl⟩ : ∃ m, k = m + 1 := ⟨k - 1, by omega⟩
    unfold bonsairef07_Lengths.l1
    rw [if_neg (by omega), if_pos (by omega), List.drop_eq_nil_of_le (by omega)]
    simp [lead]
  | succ d ih =>
    intro k i n hd hk h0 hn
    obtain ⟨k, rfl⟩ : ∃ m, k = m + 1 := ⟨k - 1, by omega⟩
    have hi : i < l.length := by omega
    unfold bonsairef07_Lengths.l1
    rw [if_pos (by omega), if_pos (by omega), rdb_at l i hi, List.drop_eq_getElem_cons hi]
    unfold lead
    by_cases hx : l[i] = c
    · rw [if_pos (by simp [hx]), if_pos hx, w64 (by omega) (by omega), w64 (by omega) (by omega), show (i : Int) + 1 = ((i + 1 : Nat) : Int) by omega, ih k (i + 1) (n + 1) (by omega) (by omega) (by omega) (by omega)]
      rw [show n + 1 + (lead c (l.drop (i + 1)) : Int) = n + ((lead c (l.drop (i + 1)) + 1 : Nat) : Int) by omega, show k - (lead c (l.drop (i + 1)) + 1) = k + 1 - (lead c (l.drop (i + 1)) + 1 + 1) by omega, show i + 1 + lead c (l.drop (i + 1)) = i + (lead c (l.drop (i + 1)) + 1) by omega]
    · rw [if_neg (by simp [hx]), if_neg hx, if_pos (by omega)]
      simp
theorem ref_l0 (l : List Bool) (hl : (l.length : Int) ≤ 1000000000000) : ∀ (d k i : Nat) (c : Bool) (out : List Int), i ≤ l.length → 2 * (l.length - i) + (if lead c (l.drop i) = 0 then 1 else 0) < d → (out.length : Int) + d ≤ 10000000000000 → 2 * d + (l.length - i) + 3 ≤ k →
    bonsairef07_Lengths.l0 k l out c (i : Int) = some (out ++ (if l.drop i = [] then [] else fl c (l.drop i) 0)) := by
  intro d
  induction d with
  | zero => intro k i c out _ hd; omega
  | succ d ih =>
    intro k i c out hil hd ho hk
    obtain ⟨k, rfl⟩ : ∃ m, k = m + 1 := ⟨k - 1, by omega⟩
    unfold bonsairef07_Lengths.l0
    by_cases hi : i < l.length
    · have hne0 : l.drop i ≠ [] := by
        intro h
        have := congrArg List.length h
        rw [List.length_drop] at this
        simp at this
        omega
      have hle := lead_le c (l.drop i)
      rw [List.length_drop] at hle
      rw [if_pos (by omega), if_neg hne0, ref_l1 l hl c out (by omega) (l.length - i) k i 0 (by omega) (by omega) (by omega) (by omega), lead_split c (l.drop i) 0, List.drop_drop]
      have hm : 2 * (l.length - (i + lead c (l.drop i))) + (if lead (!c) (l.drop (i + lead c (l.drop i))) = 0 then 1 else 0) < d := by
        by_cases hz : lead c (l.drop i) = 0
        · rw [if_pos hz] at hd
          have h1 : lead (!c) (l.drop (i + lead c (l.drop i))) ≠ 0 := by
            rw [hz, Nat.add_zero]
            cases hl : l.drop i with
            | nil => exact absurd hl hne0
            | cons x xs =>
              rw [hl] at hz
              unfold lead at hz ⊢
              split at hz
              · omega
              · rename_i h
                rw [if_pos (by cases x <;> cases c <;> simp_all)]
                omega
          rw [if_neg h1]
          omega
        · rw [if_neg hz] at hd
          split <;> omega
      rw [ih _ (i + lead c (l.drop i)) (!c) _ (by omega) hm (by rw [List.length_append]; simp only [List.length_cons, List.length_nil]; omega) (by omega)]
      simp
    · rw [if_neg (by omega), List.drop_eq_nil_of_le (by omega)]
      simp
theorem refLengths_some (l : List Bool) (hl : (l.length : Int) ≤ 1000000000000) (k : Nat) (hk : 5 * l.length + 7 ≤ k) : bonsairef07_Lengths.f k l = some (lens l) := by
  unfold bonsairef07_Lengths.f lens
  have := ref_l0 l hl (2 * l.length + 2) k 0 false [] (by omega) (by split <;> omega) (by simp; omega) (by omega)
  simpa using this
theorem len_lens (l : List Bool) : (lens l).length ≤ l.length + 1 := by
  have h : ∀ (l : List Bool) (c : Bool) (n : Int), (fl c l n).length ≤ l.length + 1 := by
    intro l
    induction l with
    | nil => intro c n; simp [fl]
    | cons x xs ih =>
      intro c n
      unfold fl
      split
      · have := ih c (n + 1); simp only [List.length_cons]; omega
      · have := ih (!c) 1; simp only [List.length_cons]; omega
  unfold lens
  split
  · simp
  · exact h _ _ _
end Go.Proofs.Ytbgjoiccehiglaa.LibH
end
section
namespace Go.Proofs.Ytbgjoiccehiglaa.LibI
open Go.RowKit Go.Proofs.Ytbgjoiccehiglaa.Print Go.Proofs.YtbgjoiccehiglaaW.PrintWords Go.Proofs.YtbgjoiccehiglaaW.PrintLast Go.Proofs.YtbgjoiccehiglaaW.PrintMore Go.Proofs.Ytbgjoiccehiglaa.LibU Go.Proofs.Ytbgjoiccehiglaa.LibV Go.Proofs.Ytbgjoiccehiglaa.LibW Go.Proofs.Ytbgjoiccehiglaa.LibX Go.Proofs.Ytbgjoiccehiglaa.LibD Go.Proofs.Ytbgjoiccehiglaa.LibE Go.Proofs.Ytbgjoiccehiglaa.LibG Go.Proofs.Ytbgjoiccehiglaa.LibH
def least (f : Bool) : Int := if f = true then 0 else 1
def sF (most : Int) : Bool → Bool → List Int → List Bool → List Bool × Bool
  | _, _, [], out => (out, true)
  | c, f, n :: ns, out => if n < least f then ([], false) else if n > most - (out.length : Int) then ([], false) else sF most (!c) false ns (out ++ List.replicate n.toNat c)
def Ok (f : Bool) : List Int → Prop
  | [] => True
  | n :: t => least f ≤ n ∧ Pos t
theorem ok_false (t : List Int) : Ok false t ↔ Pos t := by
  cases t with
  | nil => exact ⟨fun _ n hn => by simp at hn, fun _ => trivial⟩
  | cons n t => exact ⟨fun h m hm => by
      rcases List.mem_cons.mp hm with rfl | hm
      · exact h.1
      · exact h.2 m hm, fun h => ⟨h n List.mem_cons_self, fun m hm => h m (List.mem_cons_of_mem _ hm)⟩⟩
open Classical in
theorem sF_is (most : Int) : ∀ (ns : List Int) (c f : Bool) (out : List Bool), (out.length : Int) ≤ most →
    sF most c f ns out = if Ok f ns ∧ (out.length : Int) + ((sp c ns).length : Int) ≤ most then (out ++ sp c ns, true) else ([], false) := by
  intro ns
  induction ns with
  | nil =>
    intro c f out ho
    simp [sF, Ok, sp, ho]
  | cons n ns ih =>
    intro c f out ho
    have hl : 0 ≤ least f := by unfold least; split <;> omega
    unfold sF sp
    by_cases h1 : n < least f
    · rw [if_pos h1, if_neg (fun h => by have := h.1.1; omega)]
    · rw [if_neg h1]
      rw [List.length_append, List.length_replicate]
      by_cases h2 : n > most - (out.length : Int)
      · rw [if_pos h2, if_neg (fun h => by have := h.2; omega)]
      · rw [if_neg h2, ih (!c) false _ (by rw [List.length_append, List.length_replicate]; omega), List.append_assoc, List.length_append, List.length_replicate]
        by_cases h3 : Ok false ns ∧ ((out.length + n.toNat : Nat) : Int) + ((sp (!c) ns).length : Int) ≤ most
        · rw [if_pos h3, if_pos ⟨⟨by omega, (ok_false ns).mp h3.1⟩, by have := h3.2; omega⟩]
        · rw [if_neg h3, if_neg (fun h => h3 ⟨(ok_false ns).mpr h.1.2, by have := h.2; omega⟩)]
theorem mn_i {i : Nat} : mn (i : Int) 1 = least (decide (i = 0)) := by
  unfold mn least
  by_cases h : i = 0
  · subst h; decide
  · simp [h]; omega
def odd (i : Nat) : Bool := decide (i % 2 = 1)
theorem odd_succ (i : Nat) : odd (i + 1) = !odd i := by
  unfold odd
  rcases Nat.mod_two_eq_zero_or_one i with h | h <;> simp [h] <;> omega
theorem tmod_odd (i : Nat) : ((Int.tmod (i : Int) 2) == 1) = odd i := by
  unfold odd
  rw [Int.tmod_eq_emod_of_nonneg (by omega)]
  by_cases h : i % 2 = 1
  · rw [decide_eq_true h, beq_iff_eq]; omega
  · rw [decide_eq_false h, beq_eq_false_iff_ne]; omega
theorem dropI (l : List Int) (i : Nat) (h : i < l.length) : l.drop i = l[i] :: l.drop (i + 1) := List.drop_eq_getElem_cons h
theorem spread_l (ns : List Int) (most : Int) (hl : (ns.length : Int) ≤ 1000000000000) (hm : most ≤ 1000000) : ∀ (d k i : Nat) (out : List Bool), i + d = ns.length → d + 1 ≤ k → (out.length : Int) ≤ most →
    flags_Spread.l0 k ns most (!odd i) (i : Int) out = some (sF most (odd i) (decide (i = 0)) (ns.drop i) out) := by
  intro d
  induction d with
  | zero =>
    intro k i out hd hk ho
    obtain ⟨k, rfl⟩ : ∃ m, k = m + 1 := ⟨k - 1, by omega⟩
    unfold flags_Spread.l0
    rw [if_neg (by omega), List.drop_eq_nil_of_le (by omega)]
    rfl
  | succ d ih =>
    intro k i out hd hk ho
    obtain ⟨k, rfl⟩ : ∃ m, k = m + 1 := ⟨k - 1, by omega⟩
    have hi : i < ns.length := by omega
    have hle : 0 ≤ least (decide (i = 0)) := by unfold least; split <;> omega
    unfold flags_Spread.l0
    rw [if_pos (by omega), if_pos (by omega), rd_at ns i hi, dropI ns i hi, mn_i, w64 (n := most - (out.length : Int)) (by omega) (by omega)]
    unfold sF
    by_cases h1 : ns[i] < least (decide (i = 0))
    · rw [if_pos h1, if_pos h1]
    · rw [if_neg h1, if_neg h1]
      by_cases h2 : ns[i] > most - (out.length : Int)
      · rw [if_pos h2, if_pos h2]
      · rw [if_neg h2, if_neg h2]
        unfold slices_Repeat_bool_bool.f
        rw [if_pos (by simp), if_pos (by omega)]
        simp only [Option.bind_some, List.length_replicate, Bool.not_not]
        rw [if_pos (by omega), w64 (by omega) (by omega), show rdOf false [odd i] 0 = odd i from rfl, show (i : Int) + 1 = ((i + 1 : Nat) : Int) by omega]
        have := ih k (i + 1) (out ++ List.replicate ns[i].toNat (odd i)) (by omega) (by omega) (by rw [List.length_append, List.length_replicate]; omega)
        rw [odd_succ, Bool.not_not] at this
        rw [this]
        simp
theorem repb_add (n : Nat) (x : Bool) (out : List Bool) : out ++ [x] ++ List.replicate n x = out ++ List.replicate (n + 1) x := by
  rw [List.append_assoc, List.replicate_succ]; rfl
theorem ref_l1' (ns : List Int) (most : Int) (i : Nat) (hi : i < ns.length) (hl : (ns.length : Int) ≤ 1000000000000) (hf : ns[i] ≤ 1000000) : ∀ (d k : Nat) (out : List Bool) (j : Int), 0 ≤ j → j + d = ns[i] → d + 1 ≤ k → (out.length : Int) + d ≤ 1000000 →
    bonsairef07_Spread.l1 k ns most out (i : Int) j = bonsairef07_Spread.l0 (k - (d + 1)) ns most (out ++ List.replicate d (odd i)) ((i + 1 : Nat) : Int) := by
  intro d
  induction d with
  | zero =>
    intro k out j h0 hd hk ho
    obtain ⟨k, rfl⟩ : ∃ m, k = m + 1 := ⟨k - 1, by omega⟩
    unfold bonsairef07_Spread.l1
    rw [if_pos (by omega), if_pos (by omega), rd_at ns i hi, if_neg (by omega), w64 (by omega) (by omega)]
    simp
  | succ d ih =>
    intro k out j h0 hd hk ho
    obtain ⟨k, rfl⟩ : ∃ m, k = m + 1 := ⟨k - 1, by omega⟩
    unfold bonsairef07_Spread.l1
    rw [if_pos (by omega), if_pos (by omega), rd_at ns i hi, if_pos (by omega), if_pos (by omega), w64 (n := j + 1) (by omega) (by omega), tmod_odd]
    rw [ih k _ (j + 1) (by omega) (by omega) (by omega) (by simp; omega), repb_add]
    congr 1
    omega
theorem refSpread_l' (ns : List Int) (most : Int) (hl : (ns.length : Int) ≤ 1000000000000) (hm : most ≤ 1000000) (K : Nat) (hK : 1000004 ≤ K) : ∀ (d k i : Nat) (out : List Bool), i + d = ns.length → d * K + 1 ≤ k → (out.length : Int) ≤ most →
    bonsairef07_Spread.l0 k ns most out (i : Int) = some (sF most (odd i) (decide (i = 0)) (ns.drop i) out) := by
  intro d
  induction d with
  | zero =>
    intro k i out hd hk ho
    obtain ⟨k, rfl⟩ : ∃ m, k = m + 1 := ⟨k - 1, by omega⟩
    unfold bonsairef07_Spread.l0
    rw [if_neg (by omega), List.drop_eq_nil_of_le (by omega)]
    rfl
  | succ d ih =>
    intro k i out hd hk ho
    rw [Nat.succ_mul] at hk
    generalize d * K = D at hk ih
    obtain ⟨k, rfl⟩ : ∃ m, k = m + 2 := ⟨k - 2, by omega⟩
    have hi : i < ns.length := by omega
    unfold bonsairef07_Spread.l0
    rw [if_pos (by omega), if_pos (by omega), rd_at ns i hi, dropI ns i hi, w64 (n := most - (out.length : Int)) (by omega) (by omega)]
    have hj : ∀ X : Bool, X = decide (ns[i] < least (decide (i = 0)) ∨ ns[i] > most - (out.length : Int)) → 0 ≤ ns[i] ∨ X = true → bonsairef07_Spread.j2 (k + 1) ns most out (i : Int) X = some (sF most (odd i) (decide (i = 0)) (ns[i] :: ns.drop (i + 1)) out) := by
      rintro X hX h0
      unfold sF
      simp only [bonsairef07_Spread.j2]
      by_cases h1 : ns[i] < least (decide (i = 0))
      · rw [if_pos h1, if_pos (by rw [hX]; exact decide_eq_true (.inl h1))]
      · rw [if_neg h1]
        by_cases h2 : ns[i] > most - (out.length : Int)
        · rw [if_pos h2, if_pos (by rw [hX]; exact decide_eq_true (.inr h2))]
        · have hXf : X = false := by rw [hX]; exact decide_eq_false (fun h => h.elim h1 h2)
          rw [if_neg h2, if_neg (by rw [hXf]; simp)]
          have h0 : 0 ≤ ns[i] := h0.elim id (fun h => by rw [hXf] at h; cases h)
          rw [ref_l1' ns most i hi hl (by omega) ns[i].toNat k out 0 (by omega) (by omega) (by omega) (by omega)]
          rw [ih _ (i + 1) _ (by omega) (by omega) (by rw [List.length_append, List.length_replicate]; omega), odd_succ]
          simp
    by_cases h1 : ns[i] < 0
    · rw [if_pos h1]
      refine hj true ?_ (.inr rfl)
      symm
      refine decide_eq_true (.inl ?_)
      unfold least
      split <;> omega
    · rw [if_neg h1]
      by_cases h2 : ns[i] = 0
      · rw [if_pos h2]
        by_cases h3 : (i : Int) > 0
        · rw [if_pos h3]
          refine hj true ?_ (.inr rfl)
          symm
          refine decide_eq_true (.inl ?_)
          unfold least
          rw [if_neg (by simp; omega)]
          omega
        · rw [if_neg h3]
          refine hj _ ?_ (.inl (by omega))
          have hl0 : least (decide (i = 0)) = 0 := by unfold least; rw [if_pos (by simp; omega)]
          rw [decide_eq_decide, hl0]
          omega
      · rw [if_neg h2]
        refine hj _ ?_ (.inl (by omega))
        rw [decide_eq_decide]
        unfold least
        split <;> omega
open Classical in
noncomputable def spreadTo (ns : List Int) (most : Int) : List Bool × Bool := if MayF ns ∧ 0 ≤ most ∧ ((sp false ns).length : Int) ≤ most then (sp false ns, true) else ([], false)
theorem spread_some (ns : List Int) (most : Int) (hl : (ns.length : Int) ≤ 1000000000000) (hm : most ≤ 1000000) (hm0 : -9223372036854775808 ≤ most) (k K : Nat) (hK : 1000004 ≤ K) (hk : ns.length * K + ns.length + 3 ≤ k) :
    flags_Spread.f k ns most = some (spreadTo ns most) ∧ bonsairef07_Spread.f k ns most = some (spreadTo ns most) := by
  obtain ⟨k, rfl⟩ : ∃ m, k = m + 1 := ⟨k - 1, by omega⟩
  unfold flags_Spread.f bonsairef07_Spread.f
  have no : ¬ (MayF ns ∧ 0 ≤ most ∧ ((sp false ns).length : Int) ≤ most) → spreadTo ns most = ([], false) := fun h => by unfold spreadTo; rw [if_neg h]
  by_cases h1 : most < 0
  · rw [if_pos h1, if_pos h1, no (fun h => by have := h.2.1; omega)]
    exact ⟨rfl, rfl⟩
  · rw [if_neg h1, if_neg h1]
    have go : ¬ (ns.length = 1 ∧ rd ns 0 = 0) → sF most false true ns [] = spreadTo ns most := fun hne => by
      rw [sF_is most ns false true [] (by simp; omega)]
      unfold spreadTo
      have hiff : (Ok true ns ∧ (([] : List Bool).length : Int) + ((sp false ns).length : Int) ≤ most) ↔ (MayF ns ∧ 0 ≤ most ∧ ((sp false ns).length : Int) ≤ most) := by
        simp only [List.length_nil]
        constructor
        · rintro ⟨h2, h3⟩
          refine ⟨?_, by omega, by omega⟩
          cases ns with
          | nil => exact .inl rfl
          | cons n t =>
            refine .inr ⟨n, t, rfl, ?_, h2.2, fun h4 => hne ⟨by rw [h4.2]; rfl, h4.1⟩⟩
            have := h2.1
            simpa [least] using this
        · rintro ⟨h2, h3, h4⟩
          refine ⟨?_, by omega⟩
          rcases h2 with rfl | ⟨n, t, rfl, h5, h6, _⟩
          · trivial
          · exact ⟨by simpa [least] using h5, h6⟩
      by_cases hc : Ok true ns ∧ (([] : List Bool).length : Int) + ((sp false ns).length : Int) ≤ most
      · rw [if_pos hc, if_pos (hiff.mp hc), List.nil_append]
      · rw [if_neg hc, if_neg (fun h => hc (hiff.mpr h))]
    have e1 : flags_Spread.l0 (k + 1) ns most true 0 [] = some (sF most false true ns []) := spread_l ns most hl hm ns.length (k + 1) 0 [] (by omega) (by omega) (by simp; omega)
    have e2 : bonsairef07_Spread.l0 k ns most [] 0 = some (sF most false true ns []) := refSpread_l' ns most hl hm K hK ns.length k 0 [] (by omega) (by omega) (by simp; omega)
    by_cases h2 : ns.length = 1 ∧ rd ns 0 = 0
    · rw [if_pos h2, if_pos (by omega), if_pos (by omega), h2.2]
      simp only [bonsairef07_Spread.j0, beq_self_eq_true, if_true]
      rw [no ?_]
      · exact ⟨rfl, rfl⟩
      · rintro ⟨h3, _, _⟩
        rcases h3 with rfl | ⟨n, t, rfl, _, _, h4⟩
        · simp at h2
        · have ht : t = [] := by have := h2.1; simp only [List.length_cons] at this; exact List.length_eq_zero_iff.mp (by omega)
          exact h4 ⟨by have := h2.2; simpa [rd] using this, ht⟩
    · rw [if_neg h2, e1, go h2]
      refine ⟨rfl, ?_⟩
      by_cases h3 : (ns.length : Int) = 1
      · rw [if_pos h3, if_pos (by omega)]
        have h4 : rd ns 0 ≠ 0 := fun h => h2 ⟨by omega, h⟩
        simp only [bonsairef07_Spread.j0]
        rw [if_neg (by simpa using h4), e2, go h2]
      · rw [if_neg h3]
        simp only [bonsairef07_Spread.j0, Bool.false_eq_true, if_false]
        rw [e2, go h2]
noncomputable def encN : List Int → ByteArray
  | [] => noText
  | n :: ns => put n ++ encN ns
def WfN (ns : List Int) : Prop := ∀ n ∈ ns, 0 ≤ n ∧ n < 9223372036854775808
theorem encN_size : ∀ ns : List Int, (encN ns).size ≤ 10 * ns.length
  | [] => Nat.zero_le _
  | n :: ns => by
    have := encN_size ns
    have := put_size n
    unfold encN
    simp only [ByteArray.size_append, List.length_cons]
    omega
theorem enc_g' (k : Nat) (hk : 10 ≤ k) : ∀ (l : List Int) (acc : ByteArray), WfN l → acc.size + 10 * l.length ≤ 140737488355328 → flags_Encode.g k l acc = some (acc ++ encN l)
  | [], acc, _, _ => by simp only [flags_Encode.g, encN, app_no]
  | x :: xs, acc, hw, hs => by
    have hx := hw x List.mem_cons_self
    have h0 := put_size x
    simp only [List.length_cons] at hs
    unfold flags_Encode.g
    rw [w64' hx.1 (by omega), (put_both x hx.1 (by omega) k hk).1]
    simp only [Option.bind_some]
    rw [if_pos (by omega), enc_g' k hk xs _ (fun r hr => hw r (List.mem_cons_of_mem _ hr)) (by simp only [ByteArray.size_append]; omega)]
    simp only [encN, ByteArray.append_assoc]
theorem refEnc_l' (ns : List Int) (hl : (ns.length : Int) ≤ 1000000000000) (hw : WfN ns) : ∀ (d k i : Nat) (acc : ByteArray), i + d = ns.length → d + 11 ≤ k → acc.size + 10 * d ≤ 9223372036854775807 →
    bonsairef07_Encode.l0 k ns acc (i : Int) = some (acc ++ encN (ns.drop i)) := by
  intro d
  induction d with
  | zero =>
    intro k i acc hd hk hs
    obtain ⟨k, rfl⟩ : ∃ m, k = m + 1 := ⟨k - 1, by omega⟩
    unfold bonsairef07_Encode.l0
    rw [if_neg (by omega), List.drop_eq_nil_of_le (by omega)]
    simp only [encN, app_no]
  | succ d ih =>
    intro k i acc hd hk hs
    obtain ⟨k, rfl⟩ : ∃ m, k = m + 1 := ⟨k - 1, by omega⟩
    have hi : i < ns.length := by omega
    have hx := hw ns[i] (List.getElem_mem hi)
    have h0 := put_size ns[i]
    unfold bonsairef07_Encode.l0
    rw [if_pos (by omega), if_pos (by omega), rd_at ns i hi, w64' hx.1 (by omega), (put_both ns[i] hx.1 (by omega) k (by omega)).2]
    simp only [Option.bind_some]
    rw [if_pos (by omega), w64 (by omega) (by omega), show (i : Int) + 1 = ((i + 1 : Nat) : Int) by omega]
    rw [ih k (i + 1) _ (by omega) (by omega) (by simp only [ByteArray.size_append]; omega), dropI ns i hi]
    simp only [encN, ByteArray.append_assoc]
theorem sum_ge : ∀ (ns : List Int) (c : Bool), (∀ n ∈ ns, 0 ≤ n) → ∀ n ∈ ns, n ≤ ((sp c ns).length : Int)
  | [], _, _, n, hn => by simp at hn
  | m :: ns, c, h, n, hn => by
    have h0 := h m List.mem_cons_self
    unfold sp
    rw [List.length_append, List.length_replicate]
    rcases List.mem_cons.mp hn with rfl | hn
    · omega
    · have := sum_ge ns (!c) (fun x hx => h x (List.mem_cons_of_mem _ hx)) n hn
      omega
theorem may_nonneg {ns : List Int} (h : MayF ns) : ∀ n ∈ ns, 0 ≤ n := fun n hn => by
  rcases h with rfl | ⟨m, t, rfl, h0, hp, _⟩
  · simp at hn
  · rcases List.mem_cons.mp hn with rfl | hn
    · exact h0
    · have := hp n hn; omega
theorem wf_lens {l : List Bool} (hl : (l.length : Int) ≤ 1000000000000) : WfN (lens l) := fun n hn => by
  have h0 := may_nonneg (may_lens l)
  have := sum_ge (lens l) false h0 n hn
  rw [sp_lens] at this
  have := h0 n hn
  omega
theorem enc_some' (l : List Bool) (hl : (l.length : Int) ≤ 1000000000) (k : Nat) (hk : 5 * l.length + 20 ≤ k) : flags_Encode.f k l = some (encN (lens l)) ∧ bonsairef07_Encode.f k l = some (encN (lens l)) := by
  have hw := wf_lens (l := l) (by omega)
  have hn := len_lens l
  have he : ByteArray.empty = noText := rfl
  have h0 : noText.size = 0 := rfl
  constructor
  · unfold flags_Encode.f
    rw [lengths_some l (by omega) k (by omega)]
    simp only [Option.bind_some]
    rw [if_pos (by omega), enc_g' k (by omega) _ _ hw (by rw [he, h0]; omega), he, no_app]
  · unfold bonsairef07_Encode.f
    rw [refLengths_some l (by omega) k (by omega)]
    simp only [Option.bind_some]
    have := refEnc_l' (lens l) (by omega) hw (lens l).length k 0 noText (by omega) (by omega) (by rw [h0]; omega)
    simp only [Int.natCast_zero, List.drop_zero, no_app] at this
    exact this
end Go.Proofs.Ytbgjoiccehiglaa.LibI
end
section
namespace Go.Proofs.Ytbgjoiccehiglaa.LibJ
open Go.RowKit Go.Proofs.Ytbgjoiccehiglaa.Print Go.Proofs.YtbgjoiccehiglaaW.PrintWords Go.Proofs.YtbgjoiccehiglaaW.PrintLast Go.Proofs.YtbgjoiccehiglaaW.PrintMore Go.Proofs.Ytbgjoiccehiglaa.LibU Go.Proofs.Ytbgjoiccehiglaa.LibV Go.Proofs.Ytbgjoiccehiglaa.LibD Go.Proofs.Ytbgjoiccehiglaa.LibE Go.Proofs.Ytbgjoiccehiglaa.LibG Go.Proofs.Ytbgjoiccehiglaa.LibH Go.Proofs.Ytbgjoiccehiglaa.LibI
open Go.Proofs.Ytbgjoiccehiglaa.LibW (put put_size no_app app_no rd_at)
open Go.Proofs.Ytbgjoiccehiglaa.LibX (numT num_numT numT_size numT_range numT_put numT_was noText_of num_err w64')
theorem live07 : bonsailaw07_live.f 60 = some true := by decide +kernel
theorem live07_at {k : Nat} (hk : 60 ≤ k) : bonsailaw07_live.f k = some true := at_rounds (g := bonsailaw07_live.f) (fun k => bonsailaw07_live.mono k) hk live07
theorem same_l (a : List Bool) (hl : (a.length : Int) ≤ 1000000000000) : ∀ (d k i : Nat), i + d = a.length → d + 1 ≤ k → bonsairef07_Same.l0 k a a (i : Int) = some true := by
  intro d
  induction d with
  | zero =>
    intro k i hd hk
    obtain ⟨k, rfl⟩ : ∃ m, k = m + 1 := ⟨k - 1, by omega⟩
    unfold bonsairef07_Same.l0
    rw [if_neg (by omega)]
  | succ d ih =>
    intro k i hd hk
    obtain ⟨k, rfl⟩ : ∃ m, k = m + 1 := ⟨k - 1, by omega⟩
    unfold bonsairef07_Same.l0
    rw [if_pos (by omega), if_pos (by omega), if_pos (by omega), if_neg (by simp), w64 (by omega) (by omega), show (i : Int) + 1 = ((i + 1 : Nat) : Int) by omega]
    exact ih k (i + 1) (by omega) (by omega)
theorem same_self (a : List Bool) (hl : (a.length : Int) ≤ 1000000000000) (k : Nat) (hk : a.length + 1 ≤ k) : bonsairef07_Same.f k a a = some true := by
  unfold bonsairef07_Same.f
  rw [if_pos rfl]
  exact same_l a hl a.length k 0 (by omega) hk
def PreF (ns : List Int) : Prop := ns = [] ∨ ∃ n t, ns = n :: t ∧ 0 ≤ n ∧ Pos t
theorem mayF_iff (ns : List Int) : MayF ns ↔ PreF ns ∧ ns ≠ [0] := by
  constructor
  · rintro (rfl | ⟨n, t, rfl, h0, hp, hn⟩)
    · exact ⟨.inl rfl, by simp⟩
    · refine ⟨.inr ⟨n, t, rfl, h0, hp⟩, fun h => ?_⟩
      injection h with h1 h2
      exact hn ⟨h1, h2⟩
  · rintro ⟨rfl | ⟨n, t, rfl, h0, hp⟩, hn⟩
    · exact .inl rfl
    · refine .inr ⟨n, t, rfl, h0, hp, fun h => hn ?_⟩
      rw [h.1, h.2]
theorem pre_push {ns : List Int} (h : PreF ns) {v : Int} (h0 : 0 ≤ v) (hv : ¬ (v = 0 ∧ ns ≠ [])) : PreF (ns ++ [v]) := by
  rcases h with rfl | ⟨n, t, rfl, h1, hp⟩
  · exact .inr ⟨v, [], rfl, h0, fun m hm => by simp at hm⟩
  · refine .inr ⟨n, t ++ [v], by simp, h1, fun m hm => ?_⟩
    rcases List.mem_append.mp hm with hm | hm
    · exact hp m hm
    · simp at hm
      subst hm
      have : ¬ m = 0 := fun h => hv ⟨h, by simp⟩
      omega
theorem pre_front : ∀ {b a : List Int}, PreF (a ++ b) → PreF a := fun {b a} h => by
  rcases h with h | ⟨n, t, he, h0, hp⟩
  · exact .inl (List.append_eq_nil_iff.mp h).1
  · cases a with
    | nil => exact .inl rfl
    | cons m a =>
      injection he with h1 h2
      subst h1
      exact .inr ⟨m, a, rfl, h0, fun x hx => hp x (by rw [← h2]; exact List.mem_append_left _ hx)⟩
theorem pre_last {a : List Int} {v : Int} (h : PreF (a ++ [v])) : 0 ≤ v ∧ ¬ (v = 0 ∧ a ≠ []) := by
  rcases h with h | ⟨n, t, he, h0, hp⟩
  · simp at h
  · cases a with
    | nil => simp at he; rw [he.1]; exact ⟨h0, fun h => h.2 rfl⟩
    | cons m a =>
      injection he with h1 h2
      have := hp v (by rw [← h2]; simp)
      exact ⟨by omega, fun h => by omega⟩
theorem sp_snoc : ∀ (ns : List Int) (c : Bool) (v : Int), (sp c (ns ++ [v])).length = (sp c ns).length + v.toNat
  | [], c, v => by simp [sp]
  | n :: ns, c, v => by
    show (sp c (n :: (ns ++ [v]))).length = _
    unfold sp
    rw [List.length_append, List.length_append, sp_snoc ns (!c) v]
    omega
theorem pre_len {ns : List Int} (h : PreF ns) : (ns.length : Int) ≤ (sp false ns).length + 1 := by
  have hpos : ∀ (t : List Int) (c : Bool), Pos t → t.length ≤ (sp c t).length := by
    intro t
    induction t with
    | nil => intro c _; exact Nat.zero_le _
    | cons m t ih =>
      intro c hp
      have h1 := hp m List.mem_cons_self
      have := ih (!c) (fun x hx => hp x (List.mem_cons_of_mem _ hx))
      unfold sp
      rw [List.length_append, List.length_replicate, List.length_cons]
      omega
  rcases h with rfl | ⟨n, t, rfl, h0, hp⟩
  · show (0 : Int) ≤ _
    omega
  · have := hpos t true hp
    unfold sp
    rw [List.length_append, List.length_replicate, List.length_cons]
    simp only [Bool.not_false]
    omega
open Classical in
noncomputable def dF : Nat → ByteArray → List Int → Int → List Int × Int
  | 0, _, ns, _ => (ns, 99)
  | d + 1, s, ns, left =>
    if s.size = 0 then (if ns = [0] ∨ left > 0 then ([], 5) else (ns, 0)) else
    if (numT s).2.2 ≠ 0 then ([], (numT s).2.2) else
    if (numT s).1 > left ∨ ((numT s).1 = 0 ∧ ns ≠ []) then ([], 5) else
    dF d (numT s).2.1 (ns ++ [(numT s).1]) (left - (numT s).1)
def finF (p : List Int × Int) : List Bool × Int := if p.2 = 0 then (sp false p.1, 0) else ([], p.2)
theorem end_of {ns : List Int} (hp : PreF ns) {n left : Int} (h0 : 0 ≤ left) (hn : 0 ≤ n) (hl : left + (sp false ns).length = n) : spreadTo ns n = if ns = [0] then ([], false) else (sp false ns, true) := by
  unfold spreadTo
  by_cases h : ns = [0]
  · rw [if_pos h, if_neg (fun h' => ((mayF_iff ns).mp h'.1).2 h)]
  · rw [if_neg h, if_pos ⟨(mayF_iff ns).mpr ⟨hp, h⟩, hn, by omega⟩]
theorem dec_l (n : Int) (hn0 : 0 ≤ n) (hn : n ≤ 4096) (K : Nat) (hK : 1000004 ≤ K) : ∀ (d k : Nat) (s : ByteArray) (ns : List Int) (left : Int), s.size < d → s.size ≤ 9223372036854775000 → d * K + 5000 * K + 5000 ≤ k → PreF ns → 0 ≤ left → left + (sp false ns).length = n →
    flags_Decode.l0 k n ns left s 0 = some (finF (dF d s ns left)) := by
  intro d
  induction d with
  | zero => intro k s ns left hd; omega
  | succ d ih =>
    intro k s ns left hd hs hk hm h0 hl
    obtain ⟨k, rfl⟩ : ∃ m, k = m + 1 := ⟨k - 1, by omega⟩
    rw [Nat.succ_mul] at hk
    have hrl := pre_len hm
    have hmul : ns.length * K ≤ 4097 * K := Nat.mul_le_mul_right K (by omega)
    unfold flags_Decode.l0 dF
    simp only [pack_Reader_Left.f, Option.bind_some]
    by_cases hz : s.size = 0
    · rw [if_neg (by omega), if_pos hz, (spread_some ns n (by omega) (by omega) (by omega) k K hK (by omega)).1, end_of hm h0 hn0 hl]
      simp only [Option.bind_some]
      by_cases h1 : ns = [0]
      · rw [if_pos h1, if_pos (c := _ ∨ _) (.inl h1)]; rfl
      · rw [if_neg h1]
        by_cases h2 : left > 0
        · rw [if_pos rfl, if_pos h2, if_pos (.inr h2)]; rfl
        · rw [if_pos rfl, if_neg h2, if_neg (fun h => h.elim h1 h2)]; rfl
    · have r1 := numT_range s hs
      have z1 := numT_size s
      rw [if_pos (by omega), if_neg hz, num_numT s hs]
      simp only [Option.bind_some, pack_Reader_Err.f]
      by_cases e1 : (numT s).2.2 = 0
      · rw [if_pos e1, if_neg (c := _ ≠ _) (fun h => h e1), e1, w64' (x := left) h0 (by omega)]
        by_cases c1 : (numT s).1 > left
        · rw [if_pos c1, if_pos (.inl c1)]; rfl
        · rw [if_neg c1, w64 (n := (numT s).1) (by omega) (by omega), w64 (n := left - (numT s).1) (by omega) (by omega)]
          have go : ¬ ((numT s).1 = 0 ∧ ns ≠ []) → flags_Decode.l0 k n (ns ++ [(numT s).1]) (left - (numT s).1) (numT s).2.1 0 = some (finF (dF d (numT s).2.1 (ns ++ [(numT s).1]) (left - (numT s).1))) := fun c2 =>
            ih k (numT s).2.1 (ns ++ [(numT s).1]) (left - (numT s).1) (by have := r1.2.2 e1; omega) (by omega) (by omega) (pre_push hm r1.1 c2) (by omega) (by rw [sp_snoc]; omega)
          by_cases c2 : (numT s).1 = 0
          · rw [if_pos c2]
            by_cases c3 : (ns.length : Int) > 0
            · have hne : ns ≠ [] := by rintro rfl; simp at c3
              rw [if_pos c3, if_pos (.inr ⟨c2, hne⟩)]; rfl
            · have hne : ns = [] := List.length_eq_zero_iff.mp (by omega)
              rw [if_neg c3, if_pos (by omega), if_neg (c := _ ∨ _) (fun h => h.elim c1 (fun h => h.2 hne))]
              exact go (fun h => h.2 hne)
          · rw [if_neg c2, if_pos (by omega), if_neg (c := _ ∨ _) (fun h => h.elim c1 (fun h => c2 h.1))]
            exact go (fun h => c2 h.1)
      · rw [if_neg e1, if_pos e1]
        unfold finF
        rw [if_neg e1]
theorem refDec_l (n : Int) (hn0 : 0 ≤ n) (hn : n ≤ 4096) (S : ByteArray) (K : Nat) (hK : 1000004 ≤ K) : ∀ (d k : Nat) (s : ByteArray) (a : Int) (ns : List Int) (left : Int), s.size < d → Sim S a s → d * K + 5000 * K + 5000 ≤ k → PreF ns → 0 ≤ left → left + (sp false ns).length = n →
    bonsairef07_Decode.l0 k n ns left S a 0 = some (finF (dF d s ns left)) := by
  intro d
  induction d with
  | zero => intro k s a ns left hd; omega
  | succ d ih =>
    intro k s a ns left hd hS hk hm h0 hl
    obtain ⟨k, rfl⟩ : ∃ m, k = m + 1 := ⟨k - 1, by omega⟩
    rw [Nat.succ_mul] at hk
    have hrl := pre_len hm
    have hmul : ns.length * K ≤ 4097 * K := Nat.mul_le_mul_right K (by omega)
    have hsz := hS.size
    have hlo := hS.lo
    have hbig := hS.big
    have hs : s.size ≤ 9223372036854775000 := by omega
    unfold bonsairef07_Decode.l0 dF
    rw [(hS.left 0).2]
    simp only [Option.bind_some]
    by_cases hz : s.size = 0
    · rw [if_neg (by omega), if_pos hz, (spread_some ns n (by omega) (by omega) (by omega) k K hK (by omega)).2, end_of hm h0 hn0 hl]
      simp only [Option.bind_some]
      by_cases h1 : ns = [0]
      · rw [if_pos h1, if_pos (c := _ ∨ _) (.inl h1)]; rfl
      · rw [if_neg h1]
        by_cases h2 : left > 0
        · rw [if_pos rfl, if_pos h2, if_pos (.inr h2)]; rfl
        · rw [if_pos rfl, if_neg h2, if_neg (fun h => h.elim h1 h2)]; rfl
    · have r1 := numT_range s hs
      have z1 := numT_size s
      rw [if_pos (by omega), if_neg hz]
      obtain ⟨v, s1, e1', a1, hp, hr, hS1, _, _, _, _, _, hf1⟩ := hS.num 0
      rw [num_numT s hs] at hp
      obtain ⟨hv1, hs1, he1⟩ : (numT s).1 = v ∧ (numT s).2.1 = s1 ∧ (numT s).2.2 = e1' := by
        have := Option.some.inj hp
        rw [this]; exact ⟨rfl, rfl, rfl⟩
      rw [hr k (by omega)]
      simp only [Option.bind_some]
      rw [hs1, hv1, he1] at r1
      rw [hs1] at z1
      rw [hs1, he1, hv1]
      by_cases e1 : e1' = 0
      · rw [if_pos e1, if_neg (c := _ ≠ _) (fun h => h e1), e1, w64' (x := left) h0 (by omega)]
        by_cases c1 : v > left
        · rw [if_pos c1, if_pos (.inl c1)]; rfl
        · rw [if_neg c1, w64 (n := v) (by omega) (by omega), w64 (n := left - v) (by omega) (by omega)]
          have go : ¬ (v = 0 ∧ ns ≠ []) → bonsairef07_Decode.l0 k n (ns ++ [v]) (left - v) S a1 0 = some (finF (dF d s1 (ns ++ [v]) (left - v))) := fun c2 =>
            ih k s1 a1 (ns ++ [v]) (left - v) (by have := r1.2.2 e1; omega) hS1 (by omega) (pre_push hm r1.1 c2) (by omega) (by rw [sp_snoc]; omega)
          by_cases c2 : v = 0
          · rw [if_pos c2]
            by_cases c3 : (ns.length : Int) > 0
            · have hne : ns ≠ [] := by rintro rfl; simp at c3
              rw [if_pos c3, if_pos (.inr ⟨c2, hne⟩)]; rfl
            · have hne : ns = [] := List.length_eq_zero_iff.mp (by omega)
              rw [if_neg c3, if_pos (by omega), if_neg (c := _ ∨ _) (fun h => h.elim c1 (fun h => h.2 hne))]
              exact go (fun h => h.2 hne)
          · rw [if_neg c2, if_pos (by omega), if_neg (c := _ ∨ _) (fun h => h.elim c1 (fun h => c2 h.1))]
            exact go (fun h => c2 h.1)
      · rw [if_neg e1, if_pos e1]
        unfold finF
        rw [if_neg e1]
noncomputable def decTo (s : ByteArray) (n : Int) : List Bool × Int := if n < 0 then ([], 1) else if n > 4096 then ([], 10) else finF (dF (s.size + 1) s [] n)
theorem dec_some (s : ByteArray) (hs : s.size ≤ 140737488351232) (n : Int) (K : Nat) (hK : 1000004 ≤ K) (k : Nat) (hk : (s.size + 1) * K + 5000 * K + 5000 ≤ k) : flags_Decode.f k s n = some (decTo s n) ∧ bonsairef07_Decode.f k s n = some (decTo s n) := by
  unfold flags_Decode.f bonsairef07_Decode.f decTo
  by_cases h0 : n < 0
  · rw [if_pos h0, if_pos h0, if_pos h0]; exact ⟨rfl, rfl⟩
  · by_cases h1 : n > 4096
    · rw [if_neg h0, if_pos h1, if_neg h0, if_pos h1, if_neg h0, if_pos h1]; exact ⟨rfl, rfl⟩
    · rw [if_neg h0, if_neg h1, if_neg h0, if_neg h1, if_neg h0, if_neg h1]
      constructor
      · simp only [pack_New.f, Option.bind_some]
        exact dec_l n (by omega) (by omega) K hK (s.size + 1) k s [] n (by omega) (by omega) hk (.inl rfl) (by omega) (by simp [sp])
      · have hS := Sim.begin s hs 0 (by omega) (by omega)
        have hx : s.extract (0 : Int).toNat s.size = s := by simp
        rw [hx] at hS
        exact refDec_l n (by omega) (by omega) s K hK (s.size + 1) k s 0 [] n (by omega) hS hk (.inl rfl) (by omega) (by simp [sp])
theorem sp_app : ∀ (a : List Int) (c : Bool) (b : List Int), (∀ n ∈ b, 0 ≤ n) → (sp c (a ++ b)).length = (sp c a).length + (sp c b).length
  | [], c, b, _ => by simp [sp]
  | n :: a, c, b, hb => by
    show (sp c (n :: (a ++ b))).length = _
    have h1 := sp_app a (!c) b hb
    have h2 := sp_len b c hb
    have h3 := sp_len b (!c) hb
    have e1 : sp c (n :: (a ++ b)) = List.replicate n.toNat c ++ sp (!c) (a ++ b) := rfl
    have e2 : sp c (n :: a) = List.replicate n.toNat c ++ sp (!c) a := rfl
    rw [e1, e2, List.length_append, List.length_append, h1]
    omega
theorem dF_enc : ∀ (b : List Int) (d : Nat) (a : List Int) (left : Int), (encN b).size < d → PreF (a ++ b) → WfN b → 0 ≤ left → dF d (encN b) a left = if ((sp false b).length : Int) = left ∧ a ++ b ≠ [0] then (a ++ b, 0) else ([], 5) := by
  intro b
  induction b with
  | nil =>
    intro d a left hd hm hw h0
    obtain ⟨d, rfl⟩ : ∃ m, d = m + 1 := ⟨d - 1, by omega⟩
    unfold dF
    have hz : (encN []).size = 0 := rfl
    rw [if_pos hz, show sp false [] = [] from rfl, List.append_nil]
    by_cases h : a = [0] ∨ left > 0
    · rw [if_pos h, if_neg (fun h' => h.elim h'.2 (fun h => by have := h'.1; simp at this; omega))]
    · rw [if_neg h, if_pos ⟨by simp; have := fun h' => h (.inr h'); omega, fun h' => h (.inl h')⟩]
  | cons v b ih =>
    intro d a left hd hm hw h0
    obtain ⟨d, rfl⟩ : ∃ m, d = m + 1 := ⟨d - 1, by omega⟩
    have hr := hw v List.mem_cons_self
    have hm' : PreF (a ++ [v] ++ b) := by simpa using hm
    have hm2 := pre_last (pre_front hm')
    have p0 := put_size v
    have hz : (encN (v :: b)).size = (put v).size + (encN b).size := by show (put v ++ encN b).size = _; rw [ByteArray.size_append]
    have hwb : ∀ n ∈ b, 0 ≤ n := fun n hn => (hw n (List.mem_cons_of_mem _ hn)).1
    have hsp : ((sp false (v :: b)).length : Int) = v + (sp false b).length := by
      have := sp_app [v] false b hwb
      simp only [List.singleton_append] at this
      rw [this]
      simp [sp]
      omega
    unfold dF
    rw [if_neg (by omega)]
    have he : numT (encN (v :: b)) = (v, encN b, 0) := numT_put v hr.1 (by omega) (encN b)
    rw [he, hsp]
    simp only [ne_eq, not_true_eq_false, if_false]
    by_cases hc : v > left
    · rw [if_pos (.inl hc), if_neg (fun h => by have := h.1; omega)]
    · rw [if_neg (fun h => h.elim hc (fun h => hm2.2 ⟨h.1, h.2⟩))]
      rw [ih d (a ++ [v]) (left - v) (by omega) hm' (fun x hx => hw x (List.mem_cons_of_mem _ hx)) (by omega)]
      have e : a ++ [v] ++ b = a ++ v :: b := by simp
      rw [e]
      by_cases hq : ((sp false b).length : Int) = left - v ∧ a ++ v :: b ≠ [0]
      · rw [if_pos hq, if_pos ⟨by omega, hq.2⟩]
      · rw [if_neg hq, if_neg (fun h => hq ⟨by omega, h.2⟩)]
theorem dF_was : ∀ (d : Nat) (s : ByteArray) (a : List Int) (left : Int), s.size ≤ 9223372036854775000 → PreF a → 0 ≤ left → left ≤ 4096 → (dF d s a left).2 = 0 →
    ∃ b, (dF d s a left).1 = a ++ b ∧ s = encN b ∧ MayF (a ++ b) ∧ ((sp false b).length : Int) = left ∧ WfN b := by
  intro d
  induction d with
  | zero => intro s a left _ _ _ _ h; exact absurd h (by simp [dF])
  | succ d ih =>
    intro s a left hs hm h0 h4 h
    unfold dF at h ⊢
    have r1 := numT_range s hs
    have z1 := numT_size s
    by_cases hz : s.size = 0
    · rw [if_pos hz] at h ⊢
      by_cases hp : a = [0] ∨ left > 0
      · rw [if_pos hp] at h; exact absurd h (by simp)
      · rw [if_neg hp]
        exact ⟨[], by simp, noText_of hz, by rw [List.append_nil]; exact (mayF_iff a).mpr ⟨hm, fun h' => hp (.inl h')⟩, by simp [sp]; have := fun h' => hp (.inr h'); omega, fun r hr => by simp at hr⟩
    · rw [if_neg hz] at h ⊢
      by_cases e1 : (numT s).2.2 = 0
      · rw [if_neg (c := _ ≠ _) (fun h => h e1)] at h ⊢
        by_cases hc : (numT s).1 > left ∨ ((numT s).1 = 0 ∧ a ≠ [])
        · rw [if_pos hc] at h; exact absurd h (by simp)
        · rw [if_neg hc] at h ⊢
          have hc1 : ¬ (numT s).1 > left := fun h => hc (.inl h)
          obtain ⟨b, h1, h2, h3, h4, h5⟩ := ih _ _ _ (by omega) (pre_push hm r1.1 (fun h => hc (.inr h))) (by omega) (by omega) h
          have hsp : ((sp false ((numT s).1 :: b)).length : Int) = (numT s).1 + (sp false b).length := by
            have := sp_app [(numT s).1] false b (fun n hn => (h5 n hn).1)
            simp only [List.singleton_append] at this
            rw [this]
            simp [sp]
            omega
          refine ⟨(numT s).1 :: b, by rw [h1]; simp, ?_, by simpa using h3, by omega, fun r hr => ?_⟩
          · have w1 := numT_was s hs e1
            show s = put (numT s).1 ++ encN b
            rw [← h2]
            exact w1
          · rcases List.mem_cons.mp hr with rfl | hr
            · exact ⟨r1.1, by omega⟩
            · exact h5 r hr
      · rw [if_pos e1] at h; exact absurd h e1
theorem dec_enc (l : List Bool) (hl : (l.length : Int) ≤ 4096) : decTo (encN (lens l)) l.length = (l, 0) ∧ ∀ n : Int, n ≠ l.length → (decTo (encN (lens l)) n).2 ≠ 0 := by
  have hw := wf_lens (l := l) (by omega)
  have hmay := (mayF_iff _).mp (may_lens l)
  have key : ∀ n : Int, 0 ≤ n → dF ((encN (lens l)).size + 1) (encN (lens l)) [] n = if (l.length : Int) = n then (lens l, 0) else ([], 5) := fun n hn => by
    have := dF_enc (lens l) ((encN (lens l)).size + 1) [] n (by omega) (by simpa using hmay.1) hw hn
    rw [sp_lens, List.nil_append] at this
    rw [this]
    by_cases h : (l.length : Int) = n
    · rw [if_pos h, if_pos ⟨h, hmay.2⟩]
    · rw [if_neg h, if_neg (fun h' => h h'.1)]
  constructor
  · unfold decTo
    rw [if_neg (by omega), if_neg (by omega), key _ (by omega), if_pos rfl]
    unfold finF
    rw [if_pos rfl, sp_lens]
  · intro n hn
    unfold decTo
    by_cases h0 : n < 0
    · rw [if_pos h0]; decide
    · by_cases h1 : n > 4096
      · rw [if_neg h0, if_pos h1]; decide
      · rw [if_neg h0, if_neg h1, key n (by omega), if_neg (fun h => hn h.symm)]
        decide
theorem dec_was (s : ByteArray) (hs : s.size ≤ 140737488351232) (n : Int) : ((decTo s n).2 = 0 → ((decTo s n).1.length : Int) = n ∧ n ≤ 4096 ∧ encN (lens (decTo s n).1) = s) ∧ ((decTo s n).2 ≠ 0 → (decTo s n).1 = []) := by
  unfold decTo
  by_cases h0 : n < 0
  · rw [if_pos h0]; exact ⟨fun h => absurd h (by decide), fun _ => rfl⟩
  · by_cases h1 : n > 4096
    · rw [if_neg h0, if_pos h1]; exact ⟨fun h => absurd h (by decide), fun _ => rfl⟩
    · rw [if_neg h0, if_neg h1]
      unfold finF
      by_cases he : (dF (s.size + 1) s [] n).2 = 0
      · rw [if_pos he]
        refine ⟨fun _ => ?_, fun h => absurd rfl h⟩
        obtain ⟨b, e1, e2, e3, e4, e5⟩ := dF_was (s.size + 1) s [] n (by omega) (.inl rfl) (by omega) (by omega) he
        simp only [List.nil_append] at e1 e3
        rw [e1]
        refine ⟨e4, by omega, ?_⟩
        simp only
        rw [lens_sp e3, ← e2]
      · rw [if_neg he]
        exact ⟨fun h => absurd h he, fun _ => rfl⟩
end Go.Proofs.Ytbgjoiccehiglaa.LibJ
end
section
namespace Go.Proofs.Ytbgjoiccehiglaa.Print
open Go.RowKit Go.Proofs.YtbgjoiccehiglaaW.PrintWords Go.Proofs.YtbgjoiccehiglaaW.PrintLast Go.Proofs.YtbgjoiccehiglaaW.PrintMore
attribute [local go_sem] max2_int min2_int max_two min_two max_three min_three max_four min_four
set_option linter.unusedVariables false
set_option linter.unusedSimpArgs false
mutual
def bonsailaw07_FlagsBack.j0 : Nat → List Bool → ByteArray → Int → Bool → Option (Bool)
  | 0, _, _, _, _ => none
  | k + 1, x0, x1, x2, x23 => if x23 = true then ((bonsailaw07_live.f k).bind fun t710 => (some t710)) else ((flags_Encode.f k x0).bind fun t711 => ((flags_Decode.f k t711 (x0.length : Int)).bind fun bt712 => ((flags_Lengths.f k x0).bind fun t716 => ((flags_Spread.f k t716 (x0.length : Int)).bind fun bt719 => (if bt712.2 = 0 then ((bonsairef07_Same.f k bt712.1 x0).bind fun t723 => (if t723 = true then (if bt719.2 = true then ((bonsairef07_Same.f k bt719.1 x0).bind fun t724 => (bonsailaw07_FlagsBack.j1 k x0 x1 x2 t711 (!t724))) else (bonsailaw07_FlagsBack.j1 k x0 x1 x2 t711 true)) else (bonsailaw07_FlagsBack.j1 k x0 x1 x2 t711 true))) else (bonsailaw07_FlagsBack.j1 k x0 x1 x2 t711 true))))))
def bonsailaw07_FlagsBack.j1 : Nat → List Bool → ByteArray → Int → ByteArray → Bool → Option (Bool)
  | 0, _, _, _, _, _ => none
  | k + 1, x0, x1, x2, x7, x59 => if x59 = true then (none) else (if x2 = (x0.length : Int) then (bonsailaw07_FlagsBack.j2 k x1 x2) else ((flags_Decode.f k x7 x2).bind fun bt725 => (if bt725.2 = 0 then (none) else (bonsailaw07_FlagsBack.j2 k x1 x2))))
def bonsailaw07_FlagsBack.j2 : Nat → ByteArray → Int → Option (Bool)
  | 0, _, _ => none
  | k + 1, x1, x2 => (flags_Decode.f k x1 x2).bind fun bt729 => (if bt729.2 = 0 then (if (bt729.1.length : Int) = x2 then ((flags_Encode.f k bt729.1).bind fun t733 => (if t733.toList = x1.toList then ((bonsailaw07_live.f k).bind fun t734 => (some t734)) else (none))) else (none)) else (if (bt729.1.length : Int) = 0 then ((bonsailaw07_live.f k).bind fun t735 => (some t735)) else (none)))
end
def bonsailaw07_FlagsBack.f (k : Nat) (l0 : List Bool) (a1 : ByteArray) (a2 : Int) : Option (Bool) := if (l0.length : Int) > 200 then (bonsailaw07_FlagsBack.j0 k l0 a1 a2 true) else (bonsailaw07_FlagsBack.j0 k l0 a1 a2 (decide ((a1.size : Int) > 500)))
set_option maxHeartbeats 8000000 in
set_option maxRecDepth 100000 in
theorem bonsailaw07_FlagsBack.calls (k : Nat) (A0 : Option Addr) (c0 : Nat) (l0 : List Bool) (a1 : ByteArray) (a2 : Int) (r : Bool) (w : World) (hr0 : Kd.C Kd.bool w A0 l0.length l0) (hc0 : l0.length ≤ c0) (h : bonsailaw07_FlagsBack.f k l0 a1 a2 = some r) :
    Calls Try.prog 16 #[.slice A0 l0.length c0, .string a1, .int .i64 a2] w fun e w' => e = .returned (.bool r) ∧ Below w.heap.size w w' := by
  have HR0 := Aside0.mk hr0
  have HC0 := Aside0.mk hc0
  clear hr0 hc0
  have HB := Aside0.mk (Below.refl w.heap.size w)
  have H : (if (l0.length : Int) > 200 then (bonsailaw07_FlagsBack.j0 k l0 a1 a2 true) else (bonsailaw07_FlagsBack.j0 k l0 a1 a2 (decide ((a1.size : Int) > 500)))) = some r := h
  clear h
  have HC4 := Aside0.mk H
  clear H
  go_enter Try.func16, Try.ntmps16
  go_upto_region 1 with (fail)
  go_cut [23] (fun v23 wc => ∃ (kq : Nat) (x23_3 : Bool), v23 = .bool x23_3 ∧ Aside0 (bonsailaw07_FlagsBack.j0 kq l0 a1 a2 x23_3 = some r) ∧ Aside0 (kq ≤ k) ∧ Aside0 (Below w.heap.size w wc))
  case first =>
    have H := HC4.out
    clear HC4
    by_cases c5 : (l0.length : Int) > 200
    · rw [if_pos c5] at H
      have c5b0 : decide (200 < (l0.length : Int)) = true := decide_eq_true c5
      have c5b1 : decide (200 < l0.length) = true := decide_eq_true (by omega)
      clear c5
      (first | rw [c5b0] | (simp only [i64_w, i32_w]; rw [c5b0]) | skip)
      have H' := Aside0.mk H
      clear H
      go_wp2
      go_meet
      case rel => exact ⟨_, (true), (by first | rfl | (simp; done) | (simp [*]; done)), H', ⟨by first | omega | exact Nat.le_refl _⟩, ⟨by repeat (first | (with_reducible first | exact HB.out | apply below_alloc | apply pw_below_drewN | apply below_drew1) | exact HB.out)⟩⟩
    · rw [if_neg c5] at H
      have c5b0 : decide (200 < (l0.length : Int)) = false := decide_eq_false c5
      have c5b1 : decide (200 < l0.length) = false := decide_eq_false (by omega)
      clear c5
      (first | rw [c5b0] | (simp only [i64_w, i32_w]; rw [c5b0]) | skip)
      have H' := Aside0.mk H
      clear H
      go_wp2
      go_meet
      case rel => exact ⟨_, (decide ((a1.size : Int) > 500)), (by first | rfl | (simp; done) | (simp [*]; done)), H', ⟨by first | omega | exact Nat.le_refl _⟩, ⟨by repeat (first | (with_reducible first | exact HB.out | apply below_alloc | apply pw_below_drewN | apply below_drew1) | exact HB.out)⟩⟩
  case rest =>
    clear HC4
    try clear c1
    try clear p2
    try clear c5
    try clear c5b0
    try clear c5b1
    obtain ⟨kq, x23_3, rfl, HA, HJ3, HB⟩ := hcut
    cases kq with
    | zero => exact absurd HA.out (by simp [bonsailaw07_FlagsBack.j0])
    | succ kj3 =>
      have H := HA.out
      clear HA
      simp only [bonsailaw07_FlagsBack.j0] at H
      by_cases c6 : x23_3 = true
      · subst c6
        have H1 : ((bonsailaw07_live.f kj3).bind fun t710 => (some t710)) = some r := by rw [if_pos rfl] at H; exact H
        clear H
        have H := H1
        clear H1
        replace H := Option.bind_eq_some_iff.mp H
        obtain ⟨t710, A70, H⟩ := H
        replace H : (some t710) = some r := H
        have A7 := Aside0.mk A70
        clear A70
        obtain rfl := Option.some.inj H
        go_wp2_with (first | ((with_reducible refine gate_callee (f := 51) rfl ?_); refine goesL_ (some 24) rfl rfl Try.func51 (by kernel_rfl) rfl #[] rfl (by (try simp only [List.map_toArray, List.map_cons, List.map_nil]); first | done | rfl | (simp only [List.length_drop, List.length_take]; rfl)) ?_; (with_reducible refine (bonsailaw07_live.calls kj3  t710 _ A7.out).mono ?_); rintro e w8 ⟨rfl, hb⟩; refine ⟨_, rfl, ?_⟩; have n0_ := Aside0.mk (below_step (by repeat (first | (with_reducible first | exact HB.out | apply below_alloc | apply pw_below_drewN | apply below_drew1) | exact HB.out)) hb); clear HB; have HB := n0_; clear n0_; (try clear hb); (try clear hb2); (try clear hk); (try clear hi)))
        go_ret
        exact ⟨by first | rfl | (simp [errW_none, errW_some] <;> rfl) | (simp [*, errW_none, errW_some] <;> rfl), by repeat (first | (with_reducible first | exact HB.out | apply below_alloc | apply pw_below_drewN | apply below_drew1) | exact HB.out)⟩
      · replace c6 := Bool.eq_false_iff.mpr c6
        subst c6
        have H1 : ((flags_Encode.f kj3 l0).bind fun t711 => ((flags_Decode.f kj3 t711 (l0.length : Int)).bind fun bt712 => ((flags_Lengths.f kj3 l0).bind fun t716 => ((flags_Spread.f kj3 t716 (l0.length : Int)).bind fun bt719 => (if bt712.2 = 0 then ((bonsairef07_Same.f kj3 bt712.1 l0).bind fun t723 => (if t723 = true then (if bt719.2 = true then ((bonsairef07_Same.f kj3 bt719.1 l0).bind fun t724 => (bonsailaw07_FlagsBack.j1 kj3 l0 a1 a2 t711 (!t724))) else (bonsailaw07_FlagsBack.j1 kj3 l0 a1 a2 t711 true)) else (bonsailaw07_FlagsBack.j1 kj3 l0 a1 a2 t711 true))) else (bonsailaw07_FlagsBack.j1 kj3 l0 a1 a2 t711 true)))))) = some r := by rw [if_neg (show ¬ (false = true) by decide)] at H; exact H
        clear H
        have H := H1
        clear H1
        replace H := Option.bind_eq_some_iff.mp H
        obtain ⟨t711, A90, H⟩ := H
        replace H : ((flags_Decode.f kj3 t711 (l0.length : Int)).bind fun bt712 => ((flags_Lengths.f kj3 l0).bind fun t716 => ((flags_Spread.f kj3 t716 (l0.length : Int)).bind fun bt719 => (if bt712.2 = 0 then ((bonsairef07_Same.f kj3 bt712.1 l0).bind fun t723 => (if t723 = true then (if bt719.2 = true then ((bonsairef07_Same.f kj3 bt719.1 l0).bind fun t724 => (bonsailaw07_FlagsBack.j1 kj3 l0 a1 a2 t711 (!t724))) else (bonsailaw07_FlagsBack.j1 kj3 l0 a1 a2 t711 true)) else (bonsailaw07_FlagsBack.j1 kj3 l0 a1 a2 t711 true))) else (bonsailaw07_FlagsBack.j1 kj3 l0 a1 a2 t711 true))))) = some r := H
        have A9 := Aside0.mk A90
        clear A90
        replace H := Option.bind_eq_some_iff.mp H
        obtain ⟨⟨t712, t713⟩, A100, H⟩ := H
        replace H : ((flags_Lengths.f kj3 l0).bind fun t716 => ((flags_Spread.f kj3 t716 (l0.length : Int)).bind fun bt719 => (if t713 = 0 then ((bonsairef07_Same.f kj3 t712 l0).bind fun t723 => (if t723 = true then (if bt719.2 = true then ((bonsairef07_Same.f kj3 bt719.1 l0).bind fun t724 => (bonsailaw07_FlagsBack.j1 kj3 l0 a1 a2 t711 (!t724))) else (bonsailaw07_FlagsBack.j1 kj3 l0 a1 a2 t711 true)) else (bonsailaw07_FlagsBack.j1 kj3 l0 a1 a2 t711 true))) else (bonsailaw07_FlagsBack.j1 kj3 l0 a1 a2 t711 true)))) = some r := H
        have A10 := Aside0.mk A100
        clear A100
        replace H := Option.bind_eq_some_iff.mp H
        obtain ⟨t716, A110, H⟩ := H
        replace H : ((flags_Spread.f kj3 t716 (l0.length : Int)).bind fun bt719 => (if t713 = 0 then ((bonsairef07_Same.f kj3 t712 l0).bind fun t723 => (if t723 = true then (if bt719.2 = true then ((bonsairef07_Same.f kj3 bt719.1 l0).bind fun t724 => (bonsailaw07_FlagsBack.j1 kj3 l0 a1 a2 t711 (!t724))) else (bonsailaw07_FlagsBack.j1 kj3 l0 a1 a2 t711 true)) else (bonsailaw07_FlagsBack.j1 kj3 l0 a1 a2 t711 true))) else (bonsailaw07_FlagsBack.j1 kj3 l0 a1 a2 t711 true))) = some r := H
        have A11 := Aside0.mk A110
        clear A110
        replace H := Option.bind_eq_some_iff.mp H
        obtain ⟨⟨t719, t720⟩, A120, H⟩ := H
        replace H : (if t713 = 0 then ((bonsairef07_Same.f kj3 t712 l0).bind fun t723 => (if t723 = true then (if t720 = true then ((bonsairef07_Same.f kj3 t719 l0).bind fun t724 => (bonsailaw07_FlagsBack.j1 kj3 l0 a1 a2 t711 (!t724))) else (bonsailaw07_FlagsBack.j1 kj3 l0 a1 a2 t711 true)) else (bonsailaw07_FlagsBack.j1 kj3 l0 a1 a2 t711 true))) else (bonsailaw07_FlagsBack.j1 kj3 l0 a1 a2 t711 true)) = some r := H
        have A12 := Aside0.mk A120
        clear A120
        have HC13 := Aside0.mk H
        clear H
        go_upto_region 6 with (first | ((with_reducible refine gate_callee (f := 57) rfl ?_); refine goesL_ (some 26) rfl rfl Try.func57 (by kernel_rfl) rfl #[.slice A0 l0.length c0] rfl (by (try simp only [List.map_toArray, List.map_cons, List.map_nil]); first | done | rfl | (simp only [List.length_drop, List.length_take]; rfl)) ?_; (with_reducible refine (flags_Encode.calls kj3 _ _ l0 t711 _ ?side1 ?side2 A9.out).mono ?_); (case side1 => repeat (first | exact (Kd.C_below HR0.out HB.out) | (with_reducible refine Kd.C_alloc ?_ _) | (with_reducible refine Kd.C_drewN ?_ _) | (with_reducible refine Kd.C_drew ?_))); (case side2 => exact HC0.out); rintro e w14 ⟨rfl, hb⟩; refine ⟨_, rfl, ?_⟩; have n0_ := Aside0.mk (below_step (by repeat (first | (with_reducible first | exact HB.out | apply below_alloc | apply pw_below_drewN | apply below_drew1) | exact HB.out)) hb); clear HB; have HB := n0_; clear n0_; (try clear hb); (try clear hb2); (try clear hk); (try clear hi)) | ((with_reducible refine gate_callee (f := 62) rfl ?_); refine goesL_ (some 31) rfl rfl Try.func62 (by kernel_rfl) rfl #[.string t711, .int .i64 (l0.length : Int)] rfl (by (try simp only [List.map_toArray, List.map_cons, List.map_nil]); first | done | rfl | (simp only [List.length_drop, List.length_take]; rfl)) ?_; (with_reducible refine (flags_Decode.calls kj3 t711 (l0.length : Int) t712 t713 _ A10.out).mono ?_); rintro e w15 ⟨v714, rfl, ho0, hb⟩; refine ⟨_, rfl, ?_⟩; have n0_ := Aside0.mk (Kd.R_lower ho0 (below_size (by repeat (first | (with_reducible first | exact HB.out | apply below_alloc | apply pw_below_drewN | apply below_drew1) | exact HB.out)))); have n1_ := Aside0.mk (below_step (by repeat (first | (with_reducible first | exact HB.out | apply below_alloc | apply pw_below_drewN | apply below_drew1) | exact HB.out)) hb); clear HB; have HO715 := n0_; have HB := n1_; clear n0_ n1_; (try clear hb); (try clear hb2); (try clear hk); (try clear hi); (try clear ho0)) | ((with_reducible refine gate_callee (f := 55) rfl ?_); refine goesL_ (some 36) rfl rfl Try.func55 (by kernel_rfl) rfl #[.slice A0 l0.length c0] rfl (by (try simp only [List.map_toArray, List.map_cons, List.map_nil]); first | done | rfl | (simp only [List.length_drop, List.length_take]; rfl)) ?_; (with_reducible refine (flags_Lengths.calls kj3 _ _ l0 t716 _ ?side1 ?side2 A11.out).mono ?_); (case side1 => repeat (first | exact (Kd.C_below HR0.out HB.out) | (with_reducible refine Kd.C_alloc ?_ _) | (with_reducible refine Kd.C_drewN ?_ _) | (with_reducible refine Kd.C_drew ?_))); (case side2 => exact HC0.out); rintro e w16 ⟨v717, rfl, ho0, hb⟩; refine ⟨_, rfl, ?_⟩; have n0_ := Aside0.mk (Kd.R_below (by (with_reducible repeat (first | apply Kd.R_alloc | apply Kd.R_drewN | apply Kd.R_drew)); exact HO715.out) hb); have n1_ := Aside0.mk (Kd.R_lower ho0 (below_size (by repeat (first | (with_reducible first | exact HB.out | apply below_alloc | apply pw_below_drewN | apply below_drew1) | exact HB.out)))); have n2_ := Aside0.mk (below_step (by repeat (first | (with_reducible first | exact HB.out | apply below_alloc | apply pw_below_drewN | apply below_drew1) | exact HB.out)) hb); clear HO715; clear HB; have HO715 := n0_; have HO718 := n1_; have HB := n2_; clear n0_ n1_ n2_; (try clear hb); (try clear hb2); (try clear hk); (try clear hi); (try clear ho0); obtain ⟨Ao17, co17, eo17⟩ := Kd.R_slice HO718.out; subst eo17) | ((with_reducible refine gate_callee (f := 52) rfl ?_); refine goesL_ (some 39) rfl rfl Try.func52 (by kernel_rfl) rfl #[.slice Ao17 t716.length co17, .int .i64 (l0.length : Int)] rfl (by (try simp only [List.map_toArray, List.map_cons, List.map_nil]); first | done | rfl | (simp only [List.length_drop, List.length_take]; rfl)) ?_; (with_reducible refine (flags_Spread.calls kj3 _ _ t716 (l0.length : Int) t719 t720 _ ?side1 ?side2 A12.out).mono ?_); (case side1 => repeat (first | exact (Kd.R_reads' HO718.out).2.2 | (with_reducible refine Kd.C_alloc ?_ _) | (with_reducible refine Kd.C_drewN ?_ _) | (with_reducible refine Kd.C_drew ?_))); (case side2 => exact (Kd.R_reads' HO718.out).2.1); rintro e w18 ⟨v721, rfl, ho0, hb⟩; refine ⟨_, rfl, ?_⟩; have n0_ := Aside0.mk (Kd.R_elder' (by (with_reducible repeat (first | apply Kd.R_alloc | apply Kd.R_drewN | apply Kd.R_drew)); exact HO715.out) (Kd.R_base ho0) hb); have n1_ := Aside0.mk (Kd.R_below (by (with_reducible repeat (first | apply Kd.R_alloc | apply Kd.R_drewN | apply Kd.R_drew)); exact HO718.out) hb); have n2_ := Aside0.mk (Kd.R_lower (Kd.R_new' ho0 (Kd.R_lt (by (with_reducible repeat (first | apply Kd.R_alloc | apply Kd.R_drewN | apply Kd.R_drew)); exact HO715.out))) (below_size (by repeat (first | (with_reducible first | exact HB.out | apply below_alloc | apply pw_below_drewN | apply below_drew1) | exact HB.out)))); have n3_ := Aside0.mk (below_step (by repeat (first | (with_reducible first | exact HB.out | apply below_alloc | apply pw_below_drewN | apply below_drew1) | exact HB.out)) hb); clear HO715; clear HO718; clear HB; have HO715 := n0_; have HO718 := n1_; have HO722 := n2_; have HB := n3_; clear n0_ n1_ n2_ n3_; (try clear hb); (try clear hb2); (try clear hk); (try clear hi); (try clear ho0)))
        (try simp only [Act.put, List.setIfInBounds_toArray, List.set_cons_zero, List.set_cons_succ])
        go_cut [59] (fun v59 wc => ∃ (kq : Nat) (x59_12 : Bool), v59 = .bool x59_12 ∧ Aside0 (bonsailaw07_FlagsBack.j1 kq l0 a1 a2 t711 x59_12 = some r) ∧ Aside0 (kq ≤ kj3) ∧ Aside0 (Below w.heap.size w wc))
        case first =>
          have H := HC13.out
          clear HC13
          by_cases c19 : t713 = 0
          · rw [if_pos c19] at H
            have c19b0 : (t713 == 0) = true := beq_iff_eq.mpr c19
            have c19b1 : (t713 != 0) = false := bne_eq_false_iff_eq.mpr c19
            clear c19
            (first | rw [c19b0] | (simp only [i64_w, i32_w]; rw [c19b0]) | skip)
            replace H := Option.bind_eq_some_iff.mp H
            obtain ⟨t723, A200, H⟩ := H
            replace H : (if t723 = true then (if t720 = true then ((bonsairef07_Same.f kj3 t719 l0).bind fun t724 => (bonsailaw07_FlagsBack.j1 kj3 l0 a1 a2 t711 (!t724))) else (bonsailaw07_FlagsBack.j1 kj3 l0 a1 a2 t711 true)) else (bonsailaw07_FlagsBack.j1 kj3 l0 a1 a2 t711 true)) = some r := H
            have A20 := Aside0.mk A200
            clear A200
            by_cases c21 : t723 = true
            · subst c21
              have H1 : (if t720 = true then ((bonsairef07_Same.f kj3 t719 l0).bind fun t724 => (bonsailaw07_FlagsBack.j1 kj3 l0 a1 a2 t711 (!t724))) else (bonsailaw07_FlagsBack.j1 kj3 l0 a1 a2 t711 true)) = some r := by rw [if_pos rfl] at H; exact H
              clear H
              have H := H1
              clear H1
              by_cases c22 : t720 = true
              · subst c22
                have H1 : ((bonsairef07_Same.f kj3 t719 l0).bind fun t724 => (bonsailaw07_FlagsBack.j1 kj3 l0 a1 a2 t711 (!t724))) = some r := by rw [if_pos rfl] at H; exact H
                clear H
                have H := H1
                clear H1
                replace H := Option.bind_eq_some_iff.mp H
                obtain ⟨t724, A230, H⟩ := H
                replace H : (bonsailaw07_FlagsBack.j1 kj3 l0 a1 a2 t711 (!t724)) = some r := H
                have A23 := Aside0.mk A230
                clear A230
                have H' := Aside0.mk H
                clear H
                obtain ⟨Ao24, co24, eo24⟩ := Kd.R_slice HO715.out
                subst eo24
                go_wp2_with (first | (go_at_call 61; (with_reducible refine (bonsairef07_Same.calls kj3 _ _ t712 _ _ l0 true _ ?side1 ?side2 ?side3 ?side4 A20.out).mono ?_); (case side1 => repeat (first | exact (Kd.R_reads' HO715.out).2.2 | (with_reducible refine Kd.C_alloc ?_ _) | (with_reducible refine Kd.C_drewN ?_ _) | (with_reducible refine Kd.C_drew ?_))); (case side2 => exact (Kd.R_reads' HO715.out).2.1); (case side3 => repeat (first | exact (Kd.C_below HR0.out HB.out) | (with_reducible refine Kd.C_alloc ?_ _) | (with_reducible refine Kd.C_drewN ?_ _) | (with_reducible refine Kd.C_drew ?_))); (case side4 => exact HC0.out); rintro e w' ⟨rfl, ⟨nd, rfl⟩⟩; obtain ⟨Ao25, co25, eo25⟩ := Kd.R_slice HO722.out; subst eo25) | (go_at_call 61; (with_reducible refine (bonsairef07_Same.calls kj3 _ _ t719 _ _ l0 t724 _ ?side1 ?side2 ?side3 ?side4 A23.out).mono ?_); (case side1 => repeat (first | exact (Kd.R_reads' HO722.out).2.2 | (with_reducible refine Kd.C_alloc ?_ _) | (with_reducible refine Kd.C_drewN ?_ _) | (with_reducible refine Kd.C_drew ?_))); (case side2 => exact (Kd.R_reads' HO722.out).2.1); (case side3 => repeat (first | exact (Kd.C_below HR0.out (by repeat (first | (with_reducible first | exact HB.out | apply below_alloc | apply pw_below_drewN | apply below_drew1) | exact HB.out))) | (with_reducible refine Kd.C_alloc ?_ _) | (with_reducible refine Kd.C_drewN ?_ _) | (with_reducible refine Kd.C_drew ?_))); (case side4 => exact HC0.out); rintro e w' ⟨rfl, ⟨nd, rfl⟩⟩))
                go_meet
                case rel => exact ⟨_, (!t724), (by first | rfl | (simp; done) | (simp [*]; done)), H', ⟨by have := HJ3.out; first | omega | exact Nat.le_refl _⟩, ⟨by repeat (first | (with_reducible first | exact HB.out | apply below_alloc | apply pw_below_drewN | apply below_drew1) | exact HB.out)⟩⟩
              · replace c22 := Bool.eq_false_iff.mpr c22
                subst c22
                have H1 : (bonsailaw07_FlagsBack.j1 kj3 l0 a1 a2 t711 true) = some r := by rw [if_neg (show ¬ (false = true) by decide)] at H; exact H
                clear H
                have H := H1
                clear H1
                have H' := Aside0.mk H
                clear H
                obtain ⟨Ao26, co26, eo26⟩ := Kd.R_slice HO715.out
                subst eo26
                go_wp2_with (first | (go_at_call 61; (with_reducible refine (bonsairef07_Same.calls kj3 _ _ t712 _ _ l0 true _ ?side1 ?side2 ?side3 ?side4 A20.out).mono ?_); (case side1 => repeat (first | exact (Kd.R_reads' HO715.out).2.2 | (with_reducible refine Kd.C_alloc ?_ _) | (with_reducible refine Kd.C_drewN ?_ _) | (with_reducible refine Kd.C_drew ?_))); (case side2 => exact (Kd.R_reads' HO715.out).2.1); (case side3 => repeat (first | exact (Kd.C_below HR0.out HB.out) | (with_reducible refine Kd.C_alloc ?_ _) | (with_reducible refine Kd.C_drewN ?_ _) | (with_reducible refine Kd.C_drew ?_))); (case side4 => exact HC0.out); rintro e w' ⟨rfl, ⟨nd, rfl⟩⟩))
                go_meet
                case rel => exact ⟨_, (true), (by first | rfl | (simp; done) | (simp [*]; done)), H', ⟨by have := HJ3.out; first | omega | exact Nat.le_refl _⟩, ⟨by repeat (first | (with_reducible first | exact HB.out | apply below_alloc | apply pw_below_drewN | apply below_drew1) | exact HB.out)⟩⟩
            · replace c21 := Bool.eq_false_iff.mpr c21
              subst c21
              have H1 : (bonsailaw07_FlagsBack.j1 kj3 l0 a1 a2 t711 true) = some r := by rw [if_neg (show ¬ (false = true) by decide)] at H; exact H
              clear H
              have H := H1
              clear H1
              have H' := Aside0.mk H
              clear H
              obtain ⟨Ao27, co27, eo27⟩ := Kd.R_slice HO715.out
              subst eo27
              go_wp2_with (first | (go_at_call 61; (with_reducible refine (bonsairef07_Same.calls kj3 _ _ t712 _ _ l0 false _ ?side1 ?side2 ?side3 ?side4 A20.out).mono ?_); (case side1 => repeat (first | exact (Kd.R_reads' HO715.out).2.2 | (with_reducible refine Kd.C_alloc ?_ _) | (with_reducible refine Kd.C_drewN ?_ _) | (with_reducible refine Kd.C_drew ?_))); (case side2 => exact (Kd.R_reads' HO715.out).2.1); (case side3 => repeat (first | exact (Kd.C_below HR0.out HB.out) | (with_reducible refine Kd.C_alloc ?_ _) | (with_reducible refine Kd.C_drewN ?_ _) | (with_reducible refine Kd.C_drew ?_))); (case side4 => exact HC0.out); rintro e w' ⟨rfl, ⟨nd, rfl⟩⟩))
              go_meet
              case rel => exact ⟨_, (true), (by first | rfl | (simp; done) | (simp [*]; done)), H', ⟨by have := HJ3.out; first | omega | exact Nat.le_refl _⟩, ⟨by repeat (first | (with_reducible first | exact HB.out | apply below_alloc | apply pw_below_drewN | apply below_drew1) | exact HB.out)⟩⟩
          · rw [if_neg c19] at H
            have c19b0 : (t713 == 0) = false := beq_eq_false_iff_ne.mpr c19
            have c19b1 : (t713 != 0) = true := bne_iff_ne.mpr c19
            (first | rw [c19b0] | (simp only [i64_w, i32_w]; rw [c19b0]) | skip)
            have H' := Aside0.mk H
            clear H
            go_wp2
            go_meet
            case rel => exact ⟨_, (true), (by first | rfl | (simp; done) | (simp [*]; done)), H', ⟨by have := HJ3.out; first | omega | exact Nat.le_refl _⟩, ⟨by repeat (first | (with_reducible first | exact HB.out | apply below_alloc | apply pw_below_drewN | apply below_drew1) | exact HB.out)⟩⟩
        case rest =>
          clear HC13
          try clear c1
          try clear c2
          try clear p2
          try clear c5
          try clear c5b0
          try clear c5b1
          try clear c6
          try clear c16
          try clear c19
          try clear c19b0
          try clear c19b1
          try clear c21
          try clear c22
          try clear p2
          obtain ⟨kq, x59_12, rfl, HA, HJ12, HB⟩ := hcut
          cases kq with
          | zero => exact absurd HA.out (by simp [bonsailaw07_FlagsBack.j1])
          | succ kj12 =>
            have H := HA.out
            clear HA
            simp only [bonsailaw07_FlagsBack.j1] at H
            by_cases c28 : x59_12 = true
            · subst c28
              have H1 : (none) = some r := by rw [if_pos rfl] at H; exact H
              clear H
              have H := H1
              clear H1
              exact absurd H (by simp)
            · replace c28 := Bool.eq_false_iff.mpr c28
              subst c28
              have H1 : (if a2 = (l0.length : Int) then (bonsailaw07_FlagsBack.j2 kj12 a1 a2) else ((flags_Decode.f kj12 t711 a2).bind fun bt725 => (if bt725.2 = 0 then (none) else (bonsailaw07_FlagsBack.j2 kj12 a1 a2)))) = some r := by rw [if_neg (show ¬ (false = true) by decide)] at H; exact H
              clear H
              have H := H1
              clear H1
              have HC29 := Aside0.mk H
              clear H
              go_upto_if 63 with (fail)
              go_cut [] (fun wc => ∃ (kq : Nat), Aside0 (bonsailaw07_FlagsBack.j2 kq a1 a2 = some r) ∧ Aside0 (kq ≤ kj12) ∧ Aside0 (Below w.heap.size w wc))
              case first =>
                have H := HC29.out
                clear HC29
                by_cases c30 : a2 = (l0.length : Int)
                · rw [if_pos c30] at H
                  have c30b0 : (a2 == (l0.length : Int)) = true := beq_iff_eq.mpr c30
                  have c30b1 : (a2 != (l0.length : Int)) = false := bne_eq_false_iff_eq.mpr c30
                  clear c30
                  (first | rw [c30b0] | (simp only [i64_w, i32_w]; rw [c30b0]) | skip)
                  have H' := Aside0.mk H
                  clear H
                  go_wp2
                  go_meet
                  case rel => exact ⟨_, H', ⟨by have := HJ3.out; have := HJ12.out; first | omega | exact Nat.le_refl _⟩, ⟨by repeat (first | (with_reducible first | exact HB.out | apply below_alloc | apply pw_below_drewN | apply below_drew1) | exact HB.out)⟩⟩
                · rw [if_neg c30] at H
                  have c30b0 : (a2 == (l0.length : Int)) = false := beq_eq_false_iff_ne.mpr c30
                  have c30b1 : (a2 != (l0.length : Int)) = true := bne_iff_ne.mpr c30
                  (first | rw [c30b0] | (simp only [i64_w, i32_w]; rw [c30b0]) | skip)
                  replace H := Option.bind_eq_some_iff.mp H
                  obtain ⟨⟨t725, t726⟩, A310, H⟩ := H
                  replace H : (if t726 = 0 then (none) else (bonsailaw07_FlagsBack.j2 kj12 a1 a2)) = some r := H
                  have A31 := Aside0.mk A310
                  clear A310
                  by_cases c32 : t726 = 0
                  · rw [if_pos c32] at H
                    exact absurd H (by simp)
                  · rw [if_neg c32] at H
                    have c32b0 : (t726 == 0) = false := beq_eq_false_iff_ne.mpr c32
                    have c32b1 : (t726 != 0) = true := bne_iff_ne.mpr c32
                    have H' := Aside0.mk H
                    clear H
                    go_wp2_with (first | ((with_reducible refine gate_callee (f := 62) rfl ?_); refine goesL_ (some 67) rfl rfl Try.func62 (by kernel_rfl) rfl #[.string t711, .int .i64 a2] rfl (by (try simp only [List.map_toArray, List.map_cons, List.map_nil]); first | done | rfl | (simp only [List.length_drop, List.length_take]; rfl)) ?_; (with_reducible refine (flags_Decode.calls kj12 t711 a2 t725 t726 _ A31.out).mono ?_); rintro e w33 ⟨v727, rfl, ho0, hb⟩; refine ⟨_, rfl, ?_⟩; have n0_ := Aside0.mk (Kd.R_lower ho0 (below_size (by repeat (first | (with_reducible first | exact HB.out | apply below_alloc | apply pw_below_drewN | apply below_drew1) | exact HB.out)))); have n1_ := Aside0.mk (below_step (by repeat (first | (with_reducible first | exact HB.out | apply below_alloc | apply pw_below_drewN | apply below_drew1) | exact HB.out)) hb); clear HB; have HO728 := n0_; have HB := n1_; clear n0_ n1_; (try clear hb); (try clear hb2); (try clear hk); (try clear hi); (try clear ho0)))
                    go_meet
                    case rel => exact ⟨_, H', ⟨by have := HJ3.out; have := HJ12.out; first | omega | exact Nat.le_refl _⟩, ⟨by repeat (first | (with_reducible first | exact HB.out | apply below_alloc | apply pw_below_drewN | apply below_drew1) | exact HB.out)⟩⟩
              case rest =>
                clear HC29
                try clear c1
                try clear c2
                try clear p2
                try clear c3
                try clear c5
                try clear c5b0
                try clear c5b1
                try clear c6
                try clear c16
                try clear c19
                try clear c19b0
                try clear c19b1
                try clear c21
                try clear c22
                try clear c28
                try clear c30
                try clear c30b0
                try clear c30b1
                try clear c32
                try clear c32b0
                try clear c32b1
                try clear p2
                obtain ⟨kq, HA, HJ28, HB⟩ := hcut
                cases kq with
                | zero => exact absurd HA.out (by simp [bonsailaw07_FlagsBack.j2])
                | succ kj28 =>
                  have H := HA.out
                  clear HA
                  simp only [bonsailaw07_FlagsBack.j2] at H
                  replace H := Option.bind_eq_some_iff.mp H
                  obtain ⟨⟨t729, t730⟩, A340, H⟩ := H
                  replace H : (if t730 = 0 then (if (t729.length : Int) = a2 then ((flags_Encode.f kj28 t729).bind fun t733 => (if t733.toList = a1.toList then ((bonsailaw07_live.f kj28).bind fun t734 => (some t734)) else (none))) else (none)) else (if (t729.length : Int) = 0 then ((bonsailaw07_live.f kj28).bind fun t735 => (some t735)) else (none))) = some r := H
                  have A34 := Aside0.mk A340
                  clear A340
                  by_cases c35 : t730 = 0
                  · rw [if_pos c35] at H
                    have c35b0 : (t730 == 0) = true := beq_iff_eq.mpr c35
                    have c35b1 : (t730 != 0) = false := bne_eq_false_iff_eq.mpr c35
                    clear c35
                    by_cases c36 : (t729.length : Int) = a2
                    · rw [if_pos c36] at H
                      have c36b0 : ((t729.length : Int) == a2) = true := beq_iff_eq.mpr c36
                      have c36b1 : ((t729.length : Int) != a2) = false := bne_eq_false_iff_eq.mpr c36
                      clear c36
                      replace H := Option.bind_eq_some_iff.mp H
                      obtain ⟨t733, A370, H⟩ := H
                      replace H : (if t733.toList = a1.toList then ((bonsailaw07_live.f kj28).bind fun t734 => (some t734)) else (none)) = some r := H
                      have A37 := Aside0.mk A370
                      clear A370
                      by_cases c38 : t733.toList = a1.toList
                      · rw [if_pos c38] at H
                        have c38b0 : (t733.toList == a1.toList) = true := beq_iff_eq.mpr c38
                        have c38b1 : (t733.toList != a1.toList) = false := bne_eq_false_iff_eq.mpr c38
                        clear c38
                        replace H := Option.bind_eq_some_iff.mp H
                        obtain ⟨t734, A390, H⟩ := H
                        replace H : (some t734) = some r := H
                        have A39 := Aside0.mk A390
                        clear A390
                        obtain rfl := Option.some.inj H
                        go_wp2_with (first | ((with_reducible refine gate_callee (f := 62) rfl ?_); refine goesL_ (some 75) rfl rfl Try.func62 (by kernel_rfl) rfl #[.string a1, .int .i64 a2] rfl (by (try simp only [List.map_toArray, List.map_cons, List.map_nil]); first | done | rfl | (simp only [List.length_drop, List.length_take]; rfl)) ?_; (with_reducible refine (flags_Decode.calls kj28 a1 a2 t729 t730 _ A34.out).mono ?_); rintro e w40 ⟨v731, rfl, ho0, hb⟩; refine ⟨_, rfl, ?_⟩; have n0_ := Aside0.mk (Kd.R_lower ho0 (below_size (by repeat (first | (with_reducible first | exact HB.out | apply below_alloc | apply pw_below_drewN | apply below_drew1) | exact HB.out)))); have n1_ := Aside0.mk (below_step (by repeat (first | (with_reducible first | exact HB.out | apply below_alloc | apply pw_below_drewN | apply below_drew1) | exact HB.out)) hb); clear HB; have HO732 := n0_; have HB := n1_; clear n0_ n1_; (try clear hb); (try clear hb2); (try clear hk); (try clear hi); (try clear ho0); obtain ⟨Ao41, co41, eo41⟩ := Kd.R_slice HO732.out; subst eo41) | (go_at_call 57; (with_reducible refine (flags_Encode.calls kj28 _ _ t729 t733 _ ?side1 ?side2 A37.out).mono ?_); (case side1 => repeat (first | exact (Kd.R_reads' HO732.out).2.2 | (with_reducible refine Kd.C_alloc ?_ _) | (with_reducible refine Kd.C_drewN ?_ _) | (with_reducible refine Kd.C_drew ?_))); (case side2 => exact (Kd.R_reads' HO732.out).2.1); rintro e w42 ⟨rfl, hb⟩; have n0_ := Aside0.mk (Kd.R_below (by (with_reducible repeat (first | apply Kd.R_alloc | apply Kd.R_drewN | apply Kd.R_drew)); exact HO732.out) hb); have n1_ := Aside0.mk (below_step (by repeat (first | (with_reducible first | exact HB.out | apply below_alloc | apply pw_below_drewN | apply below_drew1) | exact HB.out)) hb); clear HO732; clear HB; have HO732 := n0_; have HB := n1_; clear n0_ n1_; (try clear hb); (try clear hb2); (try clear hk); (try clear hi)) | (go_at_call 51; (with_reducible refine (bonsailaw07_live.calls kj28  t734 _ A39.out).mono ?_); rintro e w43 ⟨rfl, hb⟩; have n0_ := Aside0.mk (Kd.R_below (by (with_reducible repeat (first | apply Kd.R_alloc | apply Kd.R_drewN | apply Kd.R_drew)); exact HO732.out) hb); have n1_ := Aside0.mk (below_step (by repeat (first | (with_reducible first | exact HB.out | apply below_alloc | apply pw_below_drewN | apply below_drew1) | exact HB.out)) hb); clear HO732; clear HB; have HO732 := n0_; have HB := n1_; clear n0_ n1_; (try clear hb); (try clear hb2); (try clear hk); (try clear hi)))
                        go_ret
                        exact ⟨by first | rfl | (simp [errW_none, errW_some] <;> rfl) | (simp [*, errW_none, errW_some] <;> rfl), by repeat (first | (with_reducible first | exact HB.out | apply below_alloc | apply pw_below_drewN | apply below_drew1) | exact HB.out)⟩
                      · rw [if_neg c38] at H
                        exact absurd H (by simp)
                    · rw [if_neg c36] at H
                      exact absurd H (by simp)
                  · rw [if_neg c35] at H
                    have c35b0 : (t730 == 0) = false := beq_eq_false_iff_ne.mpr c35
                    have c35b1 : (t730 != 0) = true := bne_iff_ne.mpr c35
                    by_cases c44 : (t729.length : Int) = 0
                    · rw [if_pos c44] at H
                      have c44b0 : ((t729.length : Int) == 0) = true := beq_iff_eq.mpr c44
                      have c44b1 : ((t729.length : Int) != 0) = false := bne_eq_false_iff_eq.mpr c44
                      clear c44
                      replace H := Option.bind_eq_some_iff.mp H
                      obtain ⟨t735, A450, H⟩ := H
                      replace H : (some t735) = some r := H
                      have A45 := Aside0.mk A450
                      clear A450
                      obtain rfl := Option.some.inj H
                      go_wp2_with (first | ((with_reducible refine gate_callee (f := 62) rfl ?_); refine goesL_ (some 75) rfl rfl Try.func62 (by kernel_rfl) rfl #[.string a1, .int .i64 a2] rfl (by (try simp only [List.map_toArray, List.map_cons, List.map_nil]); first | done | rfl | (simp only [List.length_drop, List.length_take]; rfl)) ?_; (with_reducible refine (flags_Decode.calls kj28 a1 a2 t729 t730 _ A34.out).mono ?_); rintro e w46 ⟨v731, rfl, ho0, hb⟩; refine ⟨_, rfl, ?_⟩; have n0_ := Aside0.mk (Kd.R_lower ho0 (below_size (by repeat (first | (with_reducible first | exact HB.out | apply below_alloc | apply pw_below_drewN | apply below_drew1) | exact HB.out)))); have n1_ := Aside0.mk (below_step (by repeat (first | (with_reducible first | exact HB.out | apply below_alloc | apply pw_below_drewN | apply below_drew1) | exact HB.out)) hb); clear HB; have HO732 := n0_; have HB := n1_; clear n0_ n1_; (try clear hb); (try clear hb2); (try clear hk); (try clear hi); (try clear ho0); obtain ⟨Ao47, co47, eo47⟩ := Kd.R_slice HO732.out; subst eo47) | (go_at_call 51; (with_reducible refine (bonsailaw07_live.calls kj28  t735 _ A45.out).mono ?_); rintro e w48 ⟨rfl, hb⟩; have n0_ := Aside0.mk (Kd.R_below (by (with_reducible repeat (first | apply Kd.R_alloc | apply Kd.R_drewN | apply Kd.R_drew)); exact HO732.out) hb); have n1_ := Aside0.mk (below_step (by repeat (first | (with_reducible first | exact HB.out | apply below_alloc | apply pw_below_drewN | apply below_drew1) | exact HB.out)) hb); clear HO732; clear HB; have HO732 := n0_; have HB := n1_; clear n0_ n1_; (try clear hb); (try clear hb2); (try clear hk); (try clear hi)))
                      go_ret
                      exact ⟨by first | rfl | (simp [errW_none, errW_some] <;> rfl) | (simp [*, errW_none, errW_some] <;> rfl), by repeat (first | (with_reducible first | exact HB.out | apply below_alloc | apply pw_below_drewN | apply below_drew1) | exact HB.out)⟩
                    · rw [if_neg c44] at H
                      exact absurd H (by simp)
end Go.Proofs.Ytbgjoiccehiglaa.Print
end
section
namespace Go.Proofs.Ytbgjoiccehiglaa.Pure
open Go.RowKit Go.Proofs.Ytbgjoiccehiglaa.Print Go.Proofs.YtbgjoiccehiglaaW.PrintWords Go.Proofs.YtbgjoiccehiglaaW.PrintLast Go.Proofs.YtbgjoiccehiglaaW.PrintMore Go.Proofs.Ytbgjoiccehiglaa.LibV Go.Proofs.Ytbgjoiccehiglaa.LibH Go.Proofs.Ytbgjoiccehiglaa.LibI Go.Proofs.Ytbgjoiccehiglaa.LibJ
theorem FlagsBack : ∀ (l0 : List Bool) (a1 : ByteArray) (a2 : Int), l0.length ≤ maxLen → a1.size ≤ 140737488351232 → (Lit.int .i64 a2).wf = true → ∃ k, bonsailaw07_FlagsBack.f k l0 a1 a2 = some true := by
  intro l s n _ hs hn
  obtain ⟨K, hK⟩ : ∃ K : Nat, 1000004 ≤ K := ⟨1000004, Nat.le_refl _⟩
  obtain ⟨M, hM⟩ : ∃ M : Nat, M = (s.size + 5000) * K + 6000 * K + 50000 := ⟨_, rfl⟩
  refine ⟨M + 3, ?_⟩
  unfold bonsailaw07_FlagsBack.f
  have yes : bonsailaw07_FlagsBack.j0 (M + 3) l s n true = some true := by
    simp only [bonsailaw07_FlagsBack.j0, if_true]
    rw [live07_at (by omega)]; rfl
  by_cases h1 : (l.length : Int) > 200
  · rw [if_pos h1]; exact yes
  rw [if_neg h1]
  by_cases h2 : (s.size : Int) > 500
  · rw [decide_eq_true h2]; exact yes
  rw [decide_eq_false h2]
  simp only [bonsailaw07_FlagsBack.j0, Bool.false_eq_true, if_false]
  have hz := encN_size (lens l)
  have hn' := len_lens l
  have hmul2 : ((encN (lens l)).size + 1) * K ≤ 2100 * K := Nat.mul_le_mul_right K (by omega)
  have hmul3 : (lens l).length * K ≤ 201 * K := Nat.mul_le_mul_right K (by omega)
  rw [Nat.add_mul] at hM
  have hds := dec_enc l (by omega)
  rw [(enc_some' l (by omega) _ (by omega)).1, lengths_some l (by omega) _ (by omega)]
  simp only [Option.bind_some]
  rw [(dec_some _ (by omega) _ K hK _ (by omega)).1, (spread_some (lens l) l.length (by omega) (by omega) (by omega) _ K hK (by omega)).1]
  simp only [Option.bind_some]
  have hsp : spreadTo (lens l) l.length = (l, true) := by
    unfold spreadTo
    rw [sp_lens, if_pos ⟨may_lens l, by omega, Int.le_refl _⟩]
  rw [hds.1, hsp]
  simp only [if_true]
  rw [same_self l (by omega) _ (by omega)]
  simp only [Option.bind_some, if_true, Bool.not_true, bonsailaw07_FlagsBack.j1, Bool.false_eq_true, if_false]
  have hj : bonsailaw07_FlagsBack.j2 (M + 1) s n = some true := by
    have hmul4 : (s.size + 1) * K ≤ (s.size + 5000) * K := Nat.mul_le_mul_right K (by omega)
    rw [Nat.add_mul] at hmul4
    simp only [bonsailaw07_FlagsBack.j2]
    rw [(dec_some s hs n K hK _ (by rw [Nat.add_mul] at hmul4 ⊢; omega)).1]
    simp only [Option.bind_some]
    have hw := dec_was s hs n
    by_cases he : (decTo s n).2 = 0
    · obtain ⟨w1, w2, w3⟩ := hw.1 he
      rw [if_pos he, if_pos w1, (enc_some' _ (by omega) _ (by omega)).1]
      simp only [Option.bind_some]
      rw [w3, if_pos rfl, live07_at (by omega)]; rfl
    · rw [if_neg he, hw.2 he, live07_at (by omega)]; rfl
  by_cases hnl : n = (l.length : Int)
  · rw [if_pos hnl]; exact hj
  · rw [if_neg hnl, (dec_some _ (by omega) n K hK _ (by omega)).1]
    simp only [Option.bind_some]
    rw [if_neg (hds.2 n hnl)]
    exact hj
end Go.Proofs.Ytbgjoiccehiglaa.Pure
end
section
namespace Go.Proofs.Ytbgjoiccehiglaa.flagsBack
open Go.ChangeShapes Go.WideShapes Go.ChangeAt Go.RowKit Go.Proofs.YtbgjoiccehiglaaW.PrintWords
open Go.ChangeMaps (open_string shut_string)
set_option linter.unusedVariables false
theorem own : ownKnob Try.prog.godebug = none := by kernel_rfl
theorem laidOut : laidOutB Try.prog = true := by kernel_rfl
set_option maxRecDepth 100000 in
theorem lifted (os : Os) (started : os.Started) (H : Type) (enc : TypeId × Value → H) :
    ReturnsInHanded {} Try.checked os 16 .any (Rows.flagsBackSpec.pre6 enc Try.prog Try.f16 Rows.flagsBackRow.domain false) (Rows.flagsBackSpec.post enc Try.prog Try.f16 false true false false) := by
  refine returnsInHanded_of_change_sized (C := Try.checked) own started (by kernel_rfl) Try.func16
    (ChangeSpec.witness6 (enc := enc) (C := Try.checked) false ⟨#[], #[.slice none 0 0, .string ByteArray.empty, .int .i64 0], []⟩ 8 (by kernel_rfl) (by kernel_rfl) (by kernel_rfl) (by kernel_rfl)) ?_
  intro W base args ds gs before hval0 hW hcnd hsz0 _
  have hsz : (DataW.weightsEach Try.prog (Try.f16.params.toList ++ Rows.flagsBackSpec.plain.varTypes Try.prog) (ds ++ gs)).all (· ≤ reachBytes) = true := hsz0
  have hval : ∀ (j : Nat) t v, Try.f16.params[j]? = some t → args[j]? = some v → Value.okWide Try.prog W .any base t v := hval0
  have hW' := hW
  obtain ⟨p, q, hA0, hV, rfl, hfz, hnd⟩ := hW
  have hA : DataW.TrodAll enc Try.prog W 0 (fun _ => true) true Try.f16.params.toList args.toList ds p := hA0
  rw [Try.params16] at hA hval hsz
  obtain ⟨v0, vs0, d0, ds0, p0, q0, hargs, rfl, rfl, h0, r0⟩ := trodAll_cons hA
  obtain ⟨v1, vs1, d1, ds1, p1, q1, rfl, rfl, rfl, h1, r1⟩ := trodAll_cons r0
  obtain ⟨v2, vs2, d2, ds2, p2, q2, rfl, rfl, rfl, h2, r2⟩ := trodAll_cons r1
  obtain ⟨rfl, rfl, rfl⟩ := trodAll_nil r2
  obtain rfl : args = #[v0, v1, v2] := by cases args; simp_all
  obtain ⟨rfl, rfl⟩ := trodVars_none hV
  obtain ⟨a0, len0, cap0, rfl⟩ := okWide_slice Try.underlying55 (hval 0 55 v0 rfl rfl)
  have k0 := h0
  have lt0 : ∀ x ∈ p0, x.block < W.heap.size := by obtain ⟨m, hm⟩ := k0; exact DataW.trod_lt m _ _ _ hm
  obtain ⟨l0, rfl, hc0, hm0, hr0, hq0⟩ := LibO.arg_slice (d := Kd.bool) Try.underlying55 (by kernel_rfl) (LibO.opens_bool Try.underlying4) h0
  obtain ⟨a1, rfl, rfl, rfl, y1⟩ := open_string Try.underlying9 (hval 1 9 v1 rfl rfl) h1
  have w1 : a1.size ≤ 140737488351232 := by
    have z := sized_string hsz (j := 1) (t := 9) rfl rfl
    rw [Array.length_toList] at z
    exact z
  obtain ⟨a2, rfl, rfl, rfl, w2⟩ := open_int Try.underlying3 (hval 2 3 v2 rfl rfl) h2
  clear hA0 hval0 hsz0 hsz
  obtain ⟨k, hk⟩ := Pure.FlagsBack l0 a1 a2 hm0 w1 w2
  refine (Print.bonsailaw07_FlagsBack.calls k a0 cap0 l0 a1 a2 true W hr0 hc0 hk).mono fun e W' ⟨he, bel⟩ => ?_
  subst he
  exact ⟨_, rfl, _, _, _, [], _, [], hW', trodAll_mk1 (shut_bool Try.underlying4 _), (trodAll_cons_mk (Below.trod laidOut (by kernel_rfl) (of_decide_eq_true (by kernel_rfl)) k0 bel lt0) (trodAll_cons_mk (shut_string Try.underlying9 y1) (trodAll_cons_mk (shut_int Try.underlying3 w2) trodAll_mk0))), rfl, bel.frame _, fun h => by cases h⟩
theorem over : Rows.flagsBackRow.holds Try.pinned (OpenSpec.ofChange Rows.flagsBackSpec) :=
  OpenClaim.holds_of_wide 16 Try.f16 rfl rfl rfl rfl rfl rfl rfl ⟨rfl, rfl, rfl, rfl, rfl⟩ rfl rfl rfl rfl rfl (by kernel_rfl) Try.func16 (by kernel_rfl)
    (of_decide_eq_true (by kernel_rfl)) (by unfold Func.isWrapper; first | (rw [if_pos (by decide +kernel)]; kernel_rfl) | (rw [if_neg (by decide +kernel)]; exact ⟨rfl, rfl⟩))
    (fun os started H enc _ => lifted os started H enc)
theorem proved : Rows.FlagsBackSaid := over
#print axioms proved
end Go.Proofs.Ytbgjoiccehiglaa.flagsBack
namespace Go.Proofs.Ytbgjoiccehiglaa
theorem flagsBack_holds : Rows.FlagsBackSaid := flagsBack.proved
end Go.Proofs.Ytbgjoiccehiglaa
end
