/- RowsBack holds: moves that may be, as a file, are read as they were; others are no file; a file cut short is none; what is read of any bytes is, as a file, these bytes. No conditions. -/
import Derived.Test.YtfgnjndfnijjoaaRows
import Derived.WalkKit
import Derived.ProofKit
import Derived.OpenShut
import Derived.ShutString
import Derived.ChangeOld
import Derived.Below
import Derived.SizedLaws
import Derived.Test.YtfgnjndfnijjoaaCRowsBack0
section
namespace Go.Proofs.Ytfgnjndfnijjoaa.rowsBack
open Go.ChangeShapes Go.WideShapes Go.ChangeAt Go.RowKit Go.Proofs.YtfgnjndfnijjoaaW.PrintWords
open Go.ChangeMaps (open_string shut_string)
set_option linter.unusedVariables false
theorem own : ownKnob Try.prog.godebug = none := by kernel_rfl
theorem laidOut : laidOutB Try.prog = true := by kernel_rfl
set_option maxRecDepth 100000 in
theorem lifted (os : Os) (started : os.Started) (H : Type) (enc : TypeId × Value → H) :
    ReturnsInHanded {} Try.checked os 5 .any (Rows.rowsBackSpec.pre6 enc Try.prog Try.f5 Rows.rowsBackRow.domain false) (Rows.rowsBackSpec.post enc Try.prog Try.f5 false true false false) := by
  refine returnsInHanded_of_change_sized (C := Try.checked) own started (by kernel_rfl) Try.func5
    (ChangeSpec.witness6 (enc := enc) (C := Try.checked) false ⟨#[], #[.slice none 0 0, .string ByteArray.empty, .int .i64 0], []⟩ 8 (by kernel_rfl) (by kernel_rfl) (by kernel_rfl) (by kernel_rfl)) ?_
  intro W base args ds gs before hval0 hW hcnd hsz0 _
  have hsz : (DataW.weightsEach Try.prog (Try.f5.params.toList ++ Rows.rowsBackSpec.plain.varTypes Try.prog) (ds ++ gs)).all (· ≤ reachBytes) = true := hsz0
  have hval : ∀ (j : Nat) t v, Try.f5.params[j]? = some t → args[j]? = some v → Value.okWide Try.prog W .any base t v := hval0
  have hW' := hW
  obtain ⟨p, q, hA0, hV, rfl, hfz, hnd⟩ := hW
  have hA : DataW.TrodAll enc Try.prog W 0 (fun _ => true) true Try.f5.params.toList args.toList ds p := hA0
  rw [Try.params5] at hA hval hsz
  obtain ⟨v0, vs0, d0, ds0, p0, q0, hargs, rfl, rfl, h0, r0⟩ := trodAll_cons hA
  obtain ⟨v1, vs1, d1, ds1, p1, q1, rfl, rfl, rfl, h1, r1⟩ := trodAll_cons r0
  obtain ⟨v2, vs2, d2, ds2, p2, q2, rfl, rfl, rfl, h2, r2⟩ := trodAll_cons r1
  obtain ⟨rfl, rfl, rfl⟩ := trodAll_nil r2
  obtain rfl : args = #[v0, v1, v2] := by cases args; simp_all
  obtain ⟨rfl, rfl⟩ := trodVars_none hV
  obtain ⟨a0, len0, cap0, rfl⟩ := okWide_slice Try.underlying22 (hval 0 22 v0 rfl rfl)
  have k0 := h0
  have lt0 : ∀ x ∈ p0, x.block < W.heap.size := by obtain ⟨m, hm⟩ := k0; exact DataW.trod_lt m _ _ _ hm
  obtain ⟨l0, rfl, hc0, hm0, hr0, hq0⟩ := LibO.arg_slice (d := Print.k30) Try.underlying22 (by kernel_rfl) (LibO.opens_iso (fun x : Print.S30 => (x.f0, x.f1, x.f2, x.f3, x.f4)) (fun p => (⟨p.1, p.2.1, p.2.2.1, p.2.2.2.1, p.2.2.2.2⟩ : Print.S30)) (fun _ => rfl) (LibO.opens_struct Try.underlying30 (by kernel_rfl) (fun n cs h => by obtain ⟨y0, h0⟩ := h 0 _ rfl; obtain ⟨y1, h1⟩ := h 1 _ rfl; obtain ⟨y2, h2⟩ := h 2 _ rfl; obtain ⟨y3, h3⟩ := h 3 _ rfl; obtain ⟨y4, h4⟩ := h 4 _ rfl; exact (LibO.fo_pair rfl (LibO.fo_one (LibO.opens_iso (fun x : Print.S27 => (x.f0, x.f1)) (fun p => (⟨p.1, p.2⟩ : Print.S27)) (fun _ => rfl) (LibO.opens_struct Try.underlying27 (by kernel_rfl) (fun n cs h => by obtain ⟨y0, h0⟩ := h 0 _ rfl; obtain ⟨y1, h1⟩ := h 1 _ rfl; exact (LibO.fo_pair rfl (LibO.fo_one (LibO.opens_int Try.underlying3) (by kernel_rfl) h0) (LibO.fo_one (LibO.opens_int Try.underlying3) (by kernel_rfl) h1))))) (by kernel_rfl) h0) (LibO.fo_pair rfl (LibO.fo_one (LibO.opens_int Try.underlying3) (by kernel_rfl) h1) (LibO.fo_pair rfl (LibO.fo_one (LibO.opens_int Try.underlying3) (by kernel_rfl) h2) (LibO.fo_pair rfl (LibO.fo_one (LibO.opens_string Try.underlying9) (by kernel_rfl) h3) (LibO.fo_one (LibO.opens_flt Try.underlying28) (by kernel_rfl) h4)))))))) h0
  obtain ⟨a1, rfl, rfl, rfl, y1⟩ := open_string Try.underlying9 (hval 1 9 v1 rfl rfl) h1
  have w1 : a1.size ≤ 140737488351232 := by
    have z := sized_string hsz (j := 1) (t := 9) rfl rfl
    rw [Array.length_toList] at z
    exact z
  obtain ⟨a2, rfl, rfl, rfl, w2⟩ := open_int Try.underlying3 (hval 2 3 v2 rfl rfl) h2
  clear hA0 hval0 hsz0 hsz
  obtain ⟨k, hk⟩ := Pure.RowsBack l0 a1 a2 hm0 hq0 w1 w2
  refine (Print.bonsailaw21_RowsBack.calls k a0 cap0 l0 a1 a2 true W hr0 hc0 hk).mono fun e W' ⟨he, bel⟩ => ?_
  subst he
  exact ⟨_, rfl, _, _, _, [], _, [], hW', trodAll_mk1 (shut_bool Try.underlying4 _), (trodAll_cons_mk (Below.trod laidOut (by kernel_rfl) (of_decide_eq_true (by kernel_rfl)) k0 bel lt0) (trodAll_cons_mk (shut_string Try.underlying9 y1) (trodAll_cons_mk (shut_int Try.underlying3 w2) trodAll_mk0))), rfl, bel.frame _, fun h => by cases h⟩
theorem over : Rows.rowsBackRow.holds Try.pinned (OpenSpec.ofChange Rows.rowsBackSpec) :=
  OpenClaim.holds_of_wide 5 Try.f5 rfl rfl rfl rfl rfl rfl rfl ⟨rfl, rfl, rfl, rfl, rfl⟩ rfl rfl rfl rfl rfl (by kernel_rfl) Try.func5 (by kernel_rfl)
    (of_decide_eq_true (by kernel_rfl)) (by unfold Func.isWrapper; first | (rw [if_pos (by decide +kernel)]; kernel_rfl) | (rw [if_neg (by decide +kernel)]; exact ⟨rfl, rfl⟩))
    (fun os started H enc _ => lifted os started H enc)
theorem proved : Rows.RowsBackSaid := over
#print axioms proved
end Go.Proofs.Ytfgnjndfnijjoaa.rowsBack
namespace Go.Proofs.Ytfgnjndfnijjoaa
theorem rowsBack_holds : Rows.RowsBackSaid := rowsBack.proved
end Go.Proofs.Ytfgnjndfnijjoaa
end
