/- The text at any place of any bytes, of at most 500, with any most: the program's answer is the reference's. -/
import Derived.Test.YtbgjoiccehiglaaLibE
namespace Go.Proofs.Ytbgjoiccehiglaa.Pure
open Go.RowKit Go.Proofs.Ytbgjoiccehiglaa.Print Go.Proofs.YtbgjoiccehiglaaW.PrintWords Go.Proofs.YtbgjoiccehiglaaW.PrintLast Go.Proofs.Ytbgjoiccehiglaa.LibC Go.Proofs.Ytbgjoiccehiglaa.LibE

theorem WordTakes : bonsailaw04_WordTakes.Pure := by
  intro a0 a1 a2 hs _ h2
  have hm : -9223372036854775808 ≤ a2 ∧ a2 ≤ 9223372036854775807 := by
    simp [Lit.wf, IntKind.min, IntKind.max, IntKind.bits, IntKind.signed] at h2
    omega
  obtain ⟨t, b, e, hk, _⟩ := take_both a0 hs a1 a2 hm.1 hm.2
  refine ⟨a0.size + 60, ?_⟩
  have hlive : bonsailaw04_live.f (a0.size + 60) = some true := at_rounds (g := bonsailaw04_live.f) (fun k => bonsailaw04_live.mono k) (by omega) live04
  obtain ⟨h1, h2⟩ := hk (a0.size + 60) (Nat.le_refl _)
  unfold bonsailaw04_WordTakes.f
  rw [hlive, h1, h2]
  simp only [Option.bind_some, if_true, ite_self]

end Go.Proofs.Ytbgjoiccehiglaa.Pure
