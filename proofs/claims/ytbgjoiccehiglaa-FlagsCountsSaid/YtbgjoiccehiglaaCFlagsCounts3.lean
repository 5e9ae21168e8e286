/- Every second length of a list, of at most 200 flags, together, is as many as is true, all others as many as is false; just the first one may be 0; and there is one more than places at which the list changes, or two, if it begins with true. -/
import Derived.Test.YtbgjoiccehiglaaRows
import Derived.WalkKit
import Derived.ProofKit
import Derived.OpenShut
import Derived.ShutString
import Derived.ChangeOld
import Derived.Below
import Derived.SizedLaws
import Derived.Test.YtbgjoiccehiglaaCFlagsCounts2
section
namespace Go.Proofs.Ytbgjoiccehiglaa.Pure
open Go.RowKit Go.Proofs.Ytbgjoiccehiglaa.Print Go.Proofs.YtbgjoiccehiglaaW.PrintWords Go.Proofs.YtbgjoiccehiglaaW.PrintLast Go.Proofs.YtbgjoiccehiglaaW.PrintMore Go.Proofs.Ytbgjoiccehiglaa.LibV Go.Proofs.Ytbgjoiccehiglaa.LibH Go.Proofs.Ytbgjoiccehiglaa.LibI Go.Proofs.Ytbgjoiccehiglaa.LibJ
open Go.Proofs.Ytbgjoiccehiglaa.LibW (rd_at)
def yes : Bool → List Int → Int
  | _, [] => 0
  | c, n :: ns => (if c = true then n else 0) + yes (!c) ns
def no : Bool → List Int → Int
  | _, [] => 0
  | c, n :: ns => (if c = true then 0 else n) + no (!c) ns
theorem yes_fl : ∀ (l : List Bool) (c : Bool) (n : Int), yes c (fl c l n) = (if c = true then n else 0) + cnt l ∧ no c (fl c l n) = (if c = true then 0 else n) + (l.length - cnt l)
  | [], c, n => by simp [fl, yes, no, cnt]
  | x :: xs, c, n => by
    have e : fl c (x :: xs) n = if x = c then fl c xs (n + 1) else n :: fl (!c) xs 1 := rfl
    rw [e, cnt_cons, List.length_cons]
    by_cases h : x = c
    · obtain ⟨h1, h2⟩ := yes_fl xs c (n + 1)
      rw [if_pos h, h1, h2, h]
      cases c <;> simp <;> omega
    · obtain ⟨h1, h2⟩ := yes_fl xs (!c) 1
      rw [if_neg h]
      show (if c = true then n else 0) + yes (!c) (fl (!c) xs 1) = _ ∧ (if c = true then 0 else n) + no (!c) (fl (!c) xs 1) = _
      rw [h1, h2]
      cases c <;> cases x <;> simp_all <;> omega
def chg : Bool → List Bool → Int
  | _, [] => 0
  | c, x :: xs => (if x = c then 0 else 1) + chg x xs
theorem len_fl : ∀ (l : List Bool) (c : Bool) (n : Int), ((fl c l n).length : Int) = 1 + chg c l
  | [], _, _ => rfl
  | x :: xs, c, n => by
    have e : fl c (x :: xs) n = if x = c then fl c xs (n + 1) else n :: fl (!c) xs 1 := rfl
    have e2 : chg c (x :: xs) = (if x = c then 0 else 1) + chg x xs := rfl
    rw [e, e2]
    by_cases h : x = c
    · rw [if_pos h, if_pos h, len_fl xs c (n + 1), h]; omega
    · have hc : x = !c := by cases x <;> cases c <;> simp_all
      rw [if_neg h, if_neg h, List.length_cons, hc]
      have := len_fl xs (!c) 1
      omega
theorem yes_nonneg : ∀ (ns : List Int) (c : Bool), (∀ n ∈ ns, 0 ≤ n) → 0 ≤ yes c ns ∧ 0 ≤ no c ns
  | [], _, _ => by simp [yes, no]
  | n :: ns, c, h => by
    have h0 := h n List.mem_cons_self
    have := yes_nonneg ns (!c) (fun x hx => h x (List.mem_cons_of_mem _ hx))
    have e1 : yes c (n :: ns) = (if c = true then n else 0) + yes (!c) ns := rfl
    have e2 : no c (n :: ns) = (if c = true then 0 else n) + no (!c) ns := rfl
    rw [e1, e2]
    split <;> omega
theorem last_l (l : List Bool) (hl : l.length ≤ 200) (ns : List Int) (a b : Int) (ha : a = cnt l) (hb : a + b = l.length) (hn : (ns.length : Int) ≤ 300) (k : Nat) (hk : 3000 ≤ k) : ∀ (d i : Nat) (w : Int), i + 1 + d = l.length → 0 ≤ w → w ≤ i + 2 → (∀ h : i < l.length, (ns.length : Int) = w + chg l[i] (l.drop (i + 1))) →
    bonsailaw07_FlagsCounts.l1 (k + d + 1) l ns a b w ((i + 1 : Nat) : Int) = some true := by
  have hc := cnt_le l
  intro d
  induction d with
  | zero =>
    intro i w hd h0 hw h
    have h1 := h (by omega)
    rw [List.drop_eq_nil_of_le (by omega)] at h1
    have e : chg l[i] [] = 0 := rfl
    unfold bonsailaw07_FlagsCounts.l1
    rw [if_neg (by omega), (count_some l (by omega) _ (by omega)).1]
    simp only [Option.bind_some]
    rw [if_pos ha, w64 (by omega) (by omega), if_pos hb, if_pos (by omega), live07_at (by omega)]
    rfl
  | succ d ih =>
    intro i w hd h0 hw h
    have hi : i + 1 < l.length := by omega
    have h1 := h (by omega)
    rw [dropB l (i + 1) hi] at h1
    have e : chg l[i] (l[i + 1] :: l.drop (i + 1 + 1)) = (if l[i + 1] = l[i] then 0 else 1) + chg l[i + 1] (l.drop (i + 1 + 1)) := rfl
    rw [e] at h1
    unfold bonsailaw07_FlagsCounts.l1
    rw [if_pos (by omega), if_pos (by omega), w64 (n := ((i + 1 : Nat) : Int) - 1) (by omega) (by omega), if_pos (by omega), if_pos (by omega), show ((i + 1 : Nat) : Int) - 1 = (i : Int) by omega, rdb_at l (i + 1) hi, rdb_at l i (by omega), w64 (n := ((i + 1 : Nat) : Int) + 1) (by omega) (by omega), w64 (n := w + 1) (by omega) (by omega)]
    rw [show ((i + 1 : Nat) : Int) + 1 = ((i + 1 + 1 : Nat) : Int) by omega, show k + (d + 1) = k + d + 1 by omega]
    by_cases hx : l[i + 1] = l[i]
    · rw [if_neg (by simp [hx])]
      rw [if_pos hx] at h1
      exact ih (i + 1) w (by omega) h0 (by omega) (fun _ => by omega)
    · rw [if_pos (by simpa using hx)]
      rw [if_neg hx] at h1
      exact ih (i + 1) (w + 1) (by omega) (by omega) (by omega) (fun _ => by omega)
theorem odd_tmod (i : Nat) : (Int.tmod (i : Int) 2 = 1) ↔ odd i = true := by
  have := tmod_odd i
  rw [← this, beq_iff_eq]
theorem counts_l (l : List Bool) (hl : l.length ≤ 200) (hne : l ≠ []) (k : Nat) (hk : 3000 ≤ k) : ∀ (d i : Nat) (a b : Int), i + d = (lens l).length → 0 ≤ a → 0 ≤ b → a + yes (odd i) ((lens l).drop i) = cnt l → a + b + yes (odd i) ((lens l).drop i) + no (odd i) ((lens l).drop i) = l.length →
    bonsailaw07_FlagsCounts.l0 (k + l.length + 2 * d + 3) l (lens l) a b (i : Int) = some true := by
  have hn := len_lens l
  have hc := cnt_le l
  have hpos := List.length_pos_iff.mpr hne
  intro d
  induction d with
  | zero =>
    intro i a b hd ha hb h1 h2
    rw [List.drop_eq_nil_of_le (by omega)] at h1 h2
    have ey : yes (odd i) [] = 0 := rfl
    have en : no (odd i) [] = 0 := rfl
    have hlen : ∀ x xs, l = x :: xs → ((lens l).length : Int) = (if x = true then 2 else 1) + chg x xs := fun x xs e => by
      have e1 : lens l = fl false l 0 := by unfold lens; rw [if_neg hne]
      have e2 : chg false (x :: xs) = (if x = false then 0 else 1) + chg x xs := rfl
      rw [e1, len_fl, e, e2]
      cases x <;> simp <;> omega
    unfold bonsailaw07_FlagsCounts.l0
    rw [if_neg (by omega), if_pos (by omega)]
    cases hl0 : l with
    | nil => exact absurd hl0 hne
    | cons x xs =>
      have hx0 : rdOf false (x :: xs) 0 = x := rfl
      have hlen := hlen x xs hl0
      have h3 := last_l l hl (lens l) a b (by omega) (by omega) (by omega) (k + (l.length + 1 - l.length)) (by omega) (l.length - 1) 0 (if x = true then 2 else 1) (by omega) (by split <;> omega) (by split <;> omega) (fun h => by
        have e : l[0] = x := by simp [hl0]
        rw [e, hlen, hl0]; rfl)
      rw [show k + (l.length + 1 - l.length) + (l.length - 1) + 1 = k + l.length + 1 by omega] at h3
      rw [← hl0]
      rw [← hl0] at hx0
      rw [hx0]
      by_cases hx : x = true
      · rw [if_pos hx] at h3
        rw [if_pos hx]
        simp only [Nat.mul_zero, Nat.add_zero, bonsailaw07_FlagsCounts.j3]
        exact h3
      · rw [if_neg hx] at h3
        rw [if_neg hx]
        simp only [Nat.mul_zero, Nat.add_zero, bonsailaw07_FlagsCounts.j3]
        exact h3
  | succ d ih =>
    intro i a b hd ha hb h1 h2
    have hi : i < (lens l).length := by omega
    have hnn := may_nonneg (may_lens l)
    have hd' := dropI (lens l) i hi
    have h0 := hnn (lens l)[i] (List.getElem_mem hi)
    have ey : yes (odd i) ((lens l)[i] :: (lens l).drop (i + 1)) = (if odd i = true then (lens l)[i] else 0) + yes (!odd i) ((lens l).drop (i + 1)) := rfl
    have en : no (odd i) ((lens l)[i] :: (lens l).drop (i + 1)) = (if odd i = true then 0 else (lens l)[i]) + no (!odd i) ((lens l).drop (i + 1)) := rfl
    rw [hd', ey, en, ← odd_succ] at h2
    rw [hd', ey, ← odd_succ] at h1
    have hge := yes_nonneg ((lens l).drop (i + 1)) (odd (i + 1)) (fun n hn => hnn n (List.mem_of_mem_drop hn))
    have hj : ∀ X : Bool, X = false → bonsailaw07_FlagsCounts.j2 (k + l.length + 2 * d + 3 + 1) l (lens l) a b (i : Int) X = some true := by
      rintro X rfl
      simp only [bonsailaw07_FlagsCounts.j2, Bool.false_eq_true, if_false]
      rw [rd_at _ i hi, w64 (n := (i : Int) + 1) (by omega) (by omega), show (i : Int) + 1 = ((i + 1 : Nat) : Int) by omega]
      by_cases ho : odd i = true
      · rw [if_pos ho] at h1 h2
        rw [if_pos ho] at h2
        rw [if_pos ((odd_tmod i).mpr ho), if_pos (by omega), if_pos (by omega), w64 (by omega) (by omega)]
        exact ih (i + 1) (a + (lens l)[i]) b (by omega) (by omega) hb (by omega) (by omega)
      · rw [if_neg ho] at h1 h2
        rw [if_neg ho] at h2
        rw [if_neg (fun h => ho ((odd_tmod i).mp h)), if_pos (by omega), if_pos (by omega), w64 (by omega) (by omega)]
        exact ih (i + 1) a (b + (lens l)[i]) (by omega) ha (by omega) (by omega) (by omega)
    rw [show k + l.length + 2 * (d + 1) + 3 = (k + l.length + 2 * d + 3 + 1) + 1 by omega]
    unfold bonsailaw07_FlagsCounts.l0
    rw [if_pos (by omega), if_pos (by omega), rd_at _ i hi, if_neg (by omega)]
    by_cases hz : (lens l)[i] = 0
    · rw [if_pos hz]
      refine hj _ (decide_eq_false ?_)
      intro hgt
      rcases may_lens l with he | ⟨n, t, he, h4, h5, h6⟩
      · rw [he] at hi; simp at hi
      · have h7 : (lens l)[i] = t[i - 1]'(by rw [he] at hi; simp only [List.length_cons] at hi; omega) := by
          simp only [he]
          rw [List.getElem_cons]
          rw [dif_neg (by omega)]
        have := h5 _ (List.getElem_mem (l := t) (n := i - 1) (by rw [he] at hi; simp only [List.length_cons] at hi; omega))
        omega
    · rw [if_neg hz]
      exact hj _ rfl
theorem FlagsCounts : ∀ (l0 : List Bool), l0.length ≤ maxLen → ∃ k, bonsailaw07_FlagsCounts.f k l0 = some true := by
  intro l _
  refine ⟨3000 + l.length + 2 * (lens l).length + 3 + 1, ?_⟩
  unfold bonsailaw07_FlagsCounts.f
  have yes' : bonsailaw07_FlagsCounts.j0 (3000 + l.length + 2 * (lens l).length + 3 + 1) l true = some true := by
    simp only [bonsailaw07_FlagsCounts.j0, if_true]
    rw [live07_at (by omega)]; rfl
  by_cases h1 : (l.length : Int) > 200
  · rw [if_pos h1]; exact yes'
  rw [if_neg h1]
  by_cases h2 : l = []
  · subst h2; exact yes'
  · have hp := List.length_pos_iff.mpr h2
    have hf := yes_fl l false 0
    have e1 : lens l = fl false l 0 := by unfold lens; rw [if_neg h2]
    rw [← e1] at hf
    rw [show ((l.length : Int) == 0) = false by rw [beq_eq_false_iff_ne]; omega]
    simp only [bonsailaw07_FlagsCounts.j0, Bool.false_eq_true, if_false]
    rw [lengths_some l (by omega) _ (by omega)]
    simp only [Option.bind_some]
    refine counts_l l (by omega) h2 3000 (Nat.le_refl _) (lens l).length 0 0 0 (by omega) (by omega) (by omega) ?_ ?_
    · show 0 + yes false (lens l) = _
      rw [hf.1]; simp
    · show 0 + 0 + yes false (lens l) + no false (lens l) = _
      rw [hf.1, hf.2]; simp; omega
end Go.Proofs.Ytbgjoiccehiglaa.Pure
end
section
namespace Go.Proofs.Ytbgjoiccehiglaa.flagsCounts
open Go.ChangeShapes Go.WideShapes Go.ChangeAt Go.RowKit Go.Proofs.YtbgjoiccehiglaaW.PrintWords
open Go.ChangeMaps (open_string shut_string)
set_option linter.unusedVariables false
theorem own : ownKnob Try.prog.godebug = none := by kernel_rfl
theorem laidOut : laidOutB Try.prog = true := by kernel_rfl
set_option maxRecDepth 100000 in
theorem lifted (os : Os) (started : os.Started) (H : Type) (enc : TypeId × Value → H) :
    ReturnsInHanded {} Try.checked os 18 .any (Rows.flagsCountsSpec.pre6 enc Try.prog Try.f18 Rows.flagsCountsRow.domain false) (Rows.flagsCountsSpec.post enc Try.prog Try.f18 false true false false) := by
  refine returnsInHanded_of_change_sized (C := Try.checked) own started (by kernel_rfl) Try.func18
    (ChangeSpec.witness6 (enc := enc) (C := Try.checked) false ⟨#[], #[.slice none 0 0], []⟩ 8 (by kernel_rfl) (by kernel_rfl) (by kernel_rfl) (by kernel_rfl)) ?_
  intro W base args ds gs before hval0 hW hcnd hsz0 _
  have hsz : (DataW.weightsEach Try.prog (Try.f18.params.toList ++ Rows.flagsCountsSpec.plain.varTypes Try.prog) (ds ++ gs)).all (· ≤ reachBytes) = true := hsz0
  have hval : ∀ (j : Nat) t v, Try.f18.params[j]? = some t → args[j]? = some v → Value.okWide Try.prog W .any base t v := hval0
  have hW' := hW
  obtain ⟨p, q, hA0, hV, rfl, hfz, hnd⟩ := hW
  have hA : DataW.TrodAll enc Try.prog W 0 (fun _ => true) true Try.f18.params.toList args.toList ds p := hA0
  rw [Try.params18] at hA hval hsz
  obtain ⟨v0, vs0, d0, ds0, p0, q0, hargs, rfl, rfl, h0, r0⟩ := trodAll_cons hA
  obtain ⟨rfl, rfl, rfl⟩ := trodAll_nil r0
  obtain rfl : args = #[v0] := by cases args; simp_all
  obtain ⟨rfl, rfl⟩ := trodVars_none hV
  obtain ⟨a0, len0, cap0, rfl⟩ := okWide_slice Try.underlying55 (hval 0 55 v0 rfl rfl)
  have k0 := h0
  have lt0 : ∀ x ∈ p0, x.block < W.heap.size := by obtain ⟨m, hm⟩ := k0; exact DataW.trod_lt m _ _ _ hm
  obtain ⟨l0, rfl, hc0, hm0, hr0, hq0⟩ := LibO.arg_slice (d := Kd.bool) Try.underlying55 (by kernel_rfl) (LibO.opens_bool Try.underlying4) h0
  clear hA0 hval0 hsz0 hsz
  obtain ⟨k, hk⟩ := Pure.FlagsCounts l0 hm0
  refine (Print.bonsailaw07_FlagsCounts.calls k a0 cap0 l0 true W hr0 hc0 hk).mono fun e W' ⟨he, bel⟩ => ?_
  subst he
  exact ⟨_, rfl, _, _, _, [], _, [], hW', trodAll_mk1 (shut_bool Try.underlying4 _), (trodAll_cons_mk (Below.trod laidOut (by kernel_rfl) (of_decide_eq_true (by kernel_rfl)) k0 bel lt0) trodAll_mk0), rfl, bel.frame _, fun h => by cases h⟩
theorem over : Rows.flagsCountsRow.holds Try.pinned (OpenSpec.ofChange Rows.flagsCountsSpec) :=
  OpenClaim.holds_of_wide 18 Try.f18 rfl rfl rfl rfl rfl rfl rfl ⟨rfl, rfl, rfl, rfl, rfl⟩ rfl rfl rfl rfl rfl (by kernel_rfl) Try.func18 (by kernel_rfl)
    (of_decide_eq_true (by kernel_rfl)) (by unfold Func.isWrapper; first | (rw [if_pos (by decide +kernel)]; kernel_rfl) | (rw [if_neg (by decide +kernel)]; exact ⟨rfl, rfl⟩))
    (fun os started H enc _ => lifted os started H enc)
theorem proved : Rows.FlagsCountsSaid := over
#print axioms proved
end Go.Proofs.Ytbgjoiccehiglaa.flagsCounts
namespace Go.Proofs.Ytbgjoiccehiglaa
theorem flagsCounts_holds : Rows.FlagsCountsSaid := flagsCounts.proved
end Go.Proofs.Ytbgjoiccehiglaa
end
