/- Slices of strings, of bools and of structs that came in: what the walks ask of them. -/
import Derived.Test.YtbgjoiccehiglaaPrint0
import Derived.SliceStrings
import Derived.Deep.Grids
namespace Go.Proofs.Ytbgjoiccehiglaa.LibRow
open Go.RowKit Go.Proofs.YtbgjoiccehiglaaW.PrintWords Go.Proofs.YtbgjoiccehiglaaW.PrintLast Go.Proofs.YtbgjoiccehiglaaW.PrintMore Go.ChangeShapes Go.Deep
section
variable {H : Type} {enc : TypeId × Value → H} {P : Program} {W : World} {base : Nat} {spare : Nat → Bool} {held : Bool}
theorem row_strings {t e : TypeId} {a : Option Addr} {len cap : Nat} {d : DataW H} {ps : List MemPlace} (ht : P.underlying t = some (.slice e)) (he : P.underlying e = some .string) (hc : P.cellsOf e = 1)
    (h : DataW.Trod enc P W base spare held t (.slice a len cap) d ps) : ∃ l : List ByteArray, len = l.length ∧ l.length ≤ cap ∧ Kd.C Kd.string W a l.length l ∧ l.length ≤ maxLen := by
  obtain ⟨fuel, hf⟩ := h
  rcases open_strings ht he hc hf with ⟨hcs, _⟩ | ⟨x, l, c, ss, hcs, _, hl, hm, hlen, _, hcell, _⟩
  · simp [Value.cells] at hcs
    obtain ⟨rfl, rfl, rfl⟩ := hcs
    exact ⟨[], rfl, Nat.le_refl _, Kd.C_nil _ _, Nat.zero_le _⟩
  · simp [Value.cells] at hcs
    obtain ⟨rfl, rfl, rfl⟩ := hcs
    have hle : len ≤ ss.length := by rw [hlen]; split <;> omega
    have hz : (ss.take len).length = len := by rw [List.length_take]; omega
    have hmx : len ≤ 9223372036854775807 := by have : cap ≤ maxLen := hm; unfold maxLen at this; omega
    refine ⟨ss.take len, hz.symm, by omega, ?_, by omega⟩
    rw [hz]
    refine Kd.C_of_reads (d := ByteArray.empty) ⟨hz, hmx, fun _ => ⟨x, rfl, fun j hj => ?_⟩⟩
    rw [hcell j (by omega)]
    simp [List.getD_eq_getElem?_getD, hj]
end
end Go.Proofs.Ytbgjoiccehiglaa.LibRow
