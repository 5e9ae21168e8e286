/- Part 4 of what RunsJoins stands on: merged by a program of this session out of its texts. -/
import Derived.Test.YtbgjoiccehiglaaCRunsJoins3
section
namespace Go.Proofs.Ytbgjoiccehiglaa.Pure
open Go.RowKit Go.Proofs.Ytbgjoiccehiglaa.Print Go.Proofs.YtbgjoiccehiglaaW.PrintWords Go.Proofs.YtbgjoiccehiglaaW.PrintLast Go.Proofs.YtbgjoiccehiglaaW.PrintMore Go.Proofs.Ytbgjoiccehiglaa.LibU Go.Proofs.Ytbgjoiccehiglaa.LibV Go.Proofs.Ytbgjoiccehiglaa.LibW Go.Proofs.Ytbgjoiccehiglaa.LibX Go.Proofs.Ytbgjoiccehiglaa.LibY
theorem u64_of {l : List Int} (h : ∀ x ∈ l, (Lit.int .u64 x).wf = true) : ∀ x ∈ l, 0 ≤ x ∧ x < 18446744073709551616 := fun x hx => by
  have := h x hx
  simp [Lit.wf, IntKind.min, IntKind.max, IntKind.bits, IntKind.signed] at this
  omega
theorem RunsJoins : bonsailaw06_RunsJoins.Pure := by
  intro l m _ _ hl _ _ hm
  have ul := u64_of hl
  have um := u64_of hm
  refine ⟨903, ?_⟩
  unfold bonsailaw06_RunsJoins.f
  have yes : bonsailaw06_RunsJoins.j0 903 l m true = some true := by
    simp only [bonsailaw06_RunsJoins.j0, if_true]
    rw [live06_at (by omega)]; rfl
  by_cases h1 : (l.length : Int) > 100
  · rw [if_pos h1]; exact yes
  rw [if_neg h1]
  by_cases h2 : (m.length : Int) > 100
  · rw [decide_eq_true h2]; exact yes
  rw [decide_eq_false h2]
  simp only [bonsailaw06_RunsJoins.j0, Bool.false_eq_true, if_false, Option.bind_some, List.nil_append, List.length_nil]
  have hlm : (l ++ m).length = l.length + m.length := List.length_append
  have rl := len_runs l
  have rm := len_runs m
  have rlm := len_runs (l ++ m)
  rw [if_pos (by omega), if_pos (by omega), runs_some l (by omega) _ (by omega), runs_some m (by omega) _ (by omega), runs_some (l ++ m) (by omega) _ (by omega)]
  simp only [Option.bind_some]
  have ulm : ∀ x ∈ l ++ m, 0 ≤ x ∧ x < 18446744073709551616 := fun x hx => (List.mem_append.mp hx).elim (ul x) (um x)
  have apart : ∀ X, X = true → (∀ (x y : Int) (t u : List Int), l = t ++ [x] → m = y :: u → x ≠ y) → bonsailaw06_RunsJoins.j1 902 l m (l ++ m) (runs l) (runs m) (runs (l ++ m)) X = some true := by
    rintro X rfl hne
    have he := runs_app hne
    simp only [bonsailaw06_RunsJoins.j1, if_true]
    have hz : (runs (l ++ m)).length = (runs l).length + (runs m).length := by rw [he, List.length_append]
    rw [w64 (by omega) (by omega), if_pos (by omega), (enc_some _ (by omega) ulm _ (by omega)).1, (enc_some _ (by omega) ul _ (by omega)).1, (enc_some _ (by omega) um _ (by omega)).1]
    simp only [Option.bind_some]
    have z1 := encR_size (runs l)
    have z2 := encR_size (runs m)
    rw [if_pos (by omega), he, encR_app, if_pos rfl, live06_at (by omega)]; rfl
  by_cases hl0 : (l.length : Int) = 0
  · rw [if_pos hl0]
    refine apart _ rfl (fun x y t u e _ => ?_)
    rw [e] at hl0
    simp at hl0
    omega
  rw [if_neg hl0]
  by_cases hm0 : (m.length : Int) = 0
  · rw [if_pos hm0]
    refine apart _ rfl (fun x y t u _ e => ?_)
    rw [e] at hm0
    simp at hm0
    omega
  rw [if_neg hm0, w64 (by omega) (by omega), if_pos (by omega), if_pos (by omega), if_pos (by omega)]
  rcases snoc_cases l with e0 | ⟨t, x, el⟩
  · rw [e0] at hl0; simp at hl0
  cases em : m with
  | nil => rw [em] at hm0; simp at hm0
  | cons y u =>
    rw [← em]
    have hx : rd l ((l.length : Int) - 1) = x := by
      rw [el, show ((t ++ [x]).length : Int) - 1 = ((t.length : Nat) : Int) by simp, rd_at _ _ (by simp)]
      simp
    have hy : rd m 0 = y := by rw [em]; rfl
    rw [hx, hy]
    by_cases hxy : x = y
    · subst hxy
      obtain ⟨a, b, p, q, e1, e2, e3⟩ := runs_meet ⟨t, el⟩ ⟨u, em⟩
      have hmp : 1 ≤ p ∧ p ≤ 1000 ∧ 1 ≤ q ∧ q ≤ 1000 := by
        have w1 := spread_runs l
        have w2 := spread_runs m
        have m1 := may_runs l
        have m2 := may_runs m
        rw [e1] at w1 m1
        rw [e2] at w2 m2
        have c1 := congrArg List.length w1
        have c2 := congrArg List.length w2
        rw [spread_snoc] at c1
        rw [spread_cons] at c2
        simp only [List.length_append, List.length_replicate] at c1 c2
        have d1 := m1.last
        have d2 := MayR.pos m2 (⟨x, q⟩ : S53) List.mem_cons_self
        simp only at d1 d2
        omega
      have z1 : (runs l).length = a.length + 1 := by rw [e1]; simp
      have z2 : (runs m).length = b.length + 1 := by rw [e2]; simp
      have z3 : (runs (l ++ m)).length = a.length + 1 + b.length := by rw [e3]; simp; omega
      simp only [bne_self_eq_false, bonsailaw06_RunsJoins.j1, Bool.false_eq_true, if_false]
      rw [if_neg (by omega), if_neg (by omega), w64 (n := ((runs l).length : Int) + (runs m).length) (by omega) (by omega), w64 (n := ((runs l).length : Int) + (runs m).length - 1) (by omega) (by omega)]
      rw [show (((runs (l ++ m)).length : Int) != ((runs l).length : Int) + (runs m).length - 1) = false by rw [bne_eq_false_iff_eq]; omega]
      simp only [bonsailaw06_RunsJoins.j2, Bool.false_eq_true, if_false]
      have r1 : rd_T53 (runs (l ++ m)) (((runs l).length : Int) - 1) = ⟨x, p + q⟩ := by
        rw [e3, show ((runs l).length : Int) - 1 = ((a.length : Nat) : Int) by omega, rd53_at _ _ (by simp only [List.length_append, List.length_cons, List.length_nil]; omega), List.getElem_append_left (by simp)]
        simp
      have r2 : rd_T53 (runs l) (((runs l).length : Int) - 1) = ⟨x, p⟩ := by
        rw [show ((runs l).length : Int) - 1 = ((a.length : Nat) : Int) by omega, e1, rd53_at _ _ (by simp)]
        simp
      have r3 : rd_T53 (runs m) 0 = ⟨x, q⟩ := by rw [e2]; rfl
      rw [w64 (n := ((runs l).length : Int) - 1) (by omega) (by omega), if_pos (by omega), if_pos (by omega), if_pos (by omega), r1, hy, if_pos rfl, if_pos (by omega), if_pos (by omega), r2, r3]
      simp only
      rw [w64 (n := p + q) (by omega) (by omega), if_pos rfl, if_pos (by omega), if_pos (by omega)]
      have t1 : (runs (l ++ m)).take (((runs l).length : Int) - 1).toNat = a := by
        rw [e3, show (((runs l).length : Int) - 1).toNat = a.length by omega, List.append_assoc, List.take_left]
      have t2 : (runs l).take (((runs l).length : Int) - 1).toNat = a := by
        rw [show (((runs l).length : Int) - 1).toNat = a.length by omega, e1, List.take_left]
      have t3 : (runs (l ++ m)).drop (runs l).length = b := by
        rw [e3, z1, show a.length + 1 = (a ++ [(⟨x, p + q⟩ : S53)]).length by simp, List.drop_left]
      have t4 : (runs m).drop 1 = b := by rw [e2]; rfl
      rw [t1, t2, t3, t4, sameRuns_self a (by omega) _ (by omega)]
      simp only [Option.bind_some, if_true]
      rw [if_pos (by omega), if_pos (by omega), if_pos (by omega), sameRuns_self b (by omega) _ (by omega), live06_at (by omega)]
      rfl
    · refine apart _ (by simp [hxy]) (fun x' y' t' u' e1 e2 => ?_)
      rw [el] at e1
      rw [em] at e2
      obtain ⟨_, rfl⟩ := snoc_inj e1
      obtain ⟨rfl, _⟩ := List.cons.inj e2
      exact hxy
end Go.Proofs.Ytbgjoiccehiglaa.Pure
end
