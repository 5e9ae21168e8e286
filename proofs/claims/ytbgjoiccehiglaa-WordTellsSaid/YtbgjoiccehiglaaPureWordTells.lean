/- Of any text of at most 500 bytes and any most: where it is wrong, whether it is valid, how many signs it is, where it is cut, and it behind its length, are what the reference tells. -/
import Derived.Test.YtbgjoiccehiglaaLibC
namespace Go.Proofs.Ytbgjoiccehiglaa.Pure
open Go.RowKit Go.Proofs.Ytbgjoiccehiglaa.Print Go.Proofs.YtbgjoiccehiglaaW.PrintWords Go.Proofs.YtbgjoiccehiglaaW.PrintLast Go.Proofs.Ytbgjoiccehiglaa.LibA Go.Proofs.Ytbgjoiccehiglaa.LibB Go.Proofs.Ytbgjoiccehiglaa.LibC

theorem WordTells : bonsailaw04_WordTells.Pure := by
  intro a0 a1 hs _
  refine ⟨40 + (2 * a0.size + 2), ?_⟩
  have hlive : bonsailaw04_live.f (40 + (2 * a0.size + 2)) = some true := at_rounds (g := bonsailaw04_live.f) (fun k => bonsailaw04_live.mono k) (by omega) live04
  obtain ⟨c, j, t⟩ := tells a0 hs
  have hc : c ≤ a0.size := by have := t.few; have := t.hi; omega
  have r1 := t.refFirst hs (40 + (2 * a0.size + 2) - (c + 1))
  have r2 := t.refCount hs (40 + (2 * a0.size + 2) - (c + 1))
  have r3 := t.refValid hs (40 + (2 * a0.size + 2) - (c + 1))
  rw [show c + 1 + (40 + (2 * a0.size + 2) - (c + 1)) = 40 + (2 * a0.size + 2) by omega] at r1 r2 r3
  obtain ⟨n, e, _, _, _, hcut, _⟩ := wordCut hs a1
  have r4 := refCut hs a1 (40 + (2 * a0.size + 2)) (by omega)
  obtain ⟨p1, p2⟩ := wordPut a0 hs (40 + (2 * a0.size + 2)) (by omega)
  unfold bonsailaw04_WordTells.f
  rw [hlive, r1, r2, r3, r4, p2, p1, hcut, t.wordFirst, t.wordCount, t.wordValid]
  simp only [Option.bind_some, if_true, beq_self_eq_true, ite_self]

end Go.Proofs.Ytbgjoiccehiglaa.Pure
