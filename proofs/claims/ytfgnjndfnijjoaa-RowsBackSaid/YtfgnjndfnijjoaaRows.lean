/-
  No cell of these rows narrows 'for every input' (looked for: loops, veiled, ifaces, maps, wideKeys, modest, calm, conditions, laid).
  DERIVED. THE GIVEN ROWS OF THIS SEAT. 4 by the template 'for every input the law returns true; each argument reads behind the call as it read before'; 0 by the template 'total and deterministic' (their statements: YtfgnjndfnijjoaaTotals.lean).
  GIVEN WITH THE SEED: the statements are not yours to turn. If you find one false, say at which input.
  Laid BY PROGRAM, IN A SANDBOX (cutbox-rows.mjs): the forced cells as the released guide's own fill.sh prints them over the translation 073d1607b6e8a49f… (all of the seat's roots in one cut). By AI agents, Wed Nov 11 2026. No macro, syntax, notation, axiom, sorry.
-/
import Derived.Test.YtfgnjndfnijjoaaChecked
import GoSem.Claim
import GoSem.ClaimJoined
import GoSem.ClaimMapViews
import Derived.JoinedTies
import Derived.KernelRfl
namespace Go.Proofs.Ytfgnjndfnijjoaa
/- THE CELL 'sum', in the pinned program and in every row, IS THE sha256 OF THE DUMP (.gsa) THAT YtfgnjndfnijjoaaProg.lean LOADS. Nothing in Lean hashes anything: it is a label: what it is worth is what the hold of that sum in a sandbox is worth. -/
noncomputable def Try.pinned : Pinned := { name := "ytfgnjndfnijjoaa", sum := "073d1607b6e8a49fdddb73654afd5f7a1503cb26370c7fbee96a20aad4b08f87", checked := Try.checked }
namespace Rows
def none {H : Type} : Left H := { results := [], args := [] }

/-- 'bonsailaw21.RowsWrites': WHATEVER THE INPUT: true; the input reads as it did. -/
def rowsWritesSpec : ChangeSpec := { name := "rowsWrites", fn := fun _ => fun
  | [d] => { results := [.lit (.bool true)], args := [d] }
  | _ => none }
def rowsWritesRow : OpenClaim := { program := "ytfgnjndfnijjoaa", sum := "073d1607b6e8a49fdddb73654afd5f7a1503cb26370c7fbee96a20aad4b08f87", func := "bonsai/bonsailaw21.RowsWrites", spec := "rowsWrites", inPlace := ["internal/abi.NoEscape"], unfollowed := true, recurses := true, apart := false }
def RowsWritesSaid : Prop := rowsWritesRow.holds Try.pinned (OpenSpec.ofChange rowsWritesSpec)

/-- ITS FALSE NEIGHBOUR: 'it returns false'. Refute it at one input. -/
def rowsWritesWrong : ChangeSpec := { name := "rowsWrites", fn := fun _ => fun
  | [d] => { results := [.lit (.bool false)], args := [d] }
  | _ => none }
def RowsWritesWrongFalsely : Prop := rowsWritesRow.holds Try.pinned (OpenSpec.ofChange rowsWritesWrong)

/-- 'bonsailaw21.RowsReads': WHATEVER THE INPUT: true; the input reads as it did. -/
def rowsReadsSpec : ChangeSpec := { name := "rowsReads", fn := fun _ => fun
  | [d] => { results := [.lit (.bool true)], args := [d] }
  | _ => none }
def rowsReadsRow : OpenClaim := { program := "ytfgnjndfnijjoaa", sum := "073d1607b6e8a49fdddb73654afd5f7a1503cb26370c7fbee96a20aad4b08f87", func := "bonsai/bonsailaw21.RowsReads", spec := "rowsReads", inPlace := ["internal/abi.NoEscape"], unfollowed := true, recurses := true, apart := false }
def RowsReadsSaid : Prop := rowsReadsRow.holds Try.pinned (OpenSpec.ofChange rowsReadsSpec)

/-- ITS FALSE NEIGHBOUR: 'it returns false'. Refute it at one input. -/
def rowsReadsWrong : ChangeSpec := { name := "rowsReads", fn := fun _ => fun
  | [d] => { results := [.lit (.bool false)], args := [d] }
  | _ => none }
def RowsReadsWrongFalsely : Prop := rowsReadsRow.holds Try.pinned (OpenSpec.ofChange rowsReadsWrong)

/-- 'bonsailaw21.RowsBack': WHATEVER THE INPUT: true; the input reads as it did. -/
def rowsBackSpec : ChangeSpec := { name := "rowsBack", fn := fun _ => fun
  | [d1, d2, d3] => { results := [.lit (.bool true)], args := [d1, d2, d3] }
  | _ => none }
def rowsBackRow : OpenClaim := { program := "ytfgnjndfnijjoaa", sum := "073d1607b6e8a49fdddb73654afd5f7a1503cb26370c7fbee96a20aad4b08f87", func := "bonsai/bonsailaw21.RowsBack", spec := "rowsBack", inPlace := ["internal/abi.NoEscape"], unfollowed := true, recurses := true, apart := false }
def RowsBackSaid : Prop := rowsBackRow.holds Try.pinned (OpenSpec.ofChange rowsBackSpec)

/-- ITS FALSE NEIGHBOUR: 'it returns false'. Refute it at one input. -/
def rowsBackWrong : ChangeSpec := { name := "rowsBack", fn := fun _ => fun
  | [d1, d2, d3] => { results := [.lit (.bool false)], args := [d1, d2, d3] }
  | _ => none }
def RowsBackWrongFalsely : Prop := rowsBackRow.holds Try.pinned (OpenSpec.ofChange rowsBackWrong)

/-- 'bonsailaw21.RowsSizes': WHATEVER THE INPUT: true; the input reads as it did. -/
def rowsSizesSpec : ChangeSpec := { name := "rowsSizes", fn := fun _ => fun
  | [d] => { results := [.lit (.bool true)], args := [d] }
  | _ => none }
def rowsSizesRow : OpenClaim := { program := "ytfgnjndfnijjoaa", sum := "073d1607b6e8a49fdddb73654afd5f7a1503cb26370c7fbee96a20aad4b08f87", func := "bonsai/bonsailaw21.RowsSizes", spec := "rowsSizes", inPlace := ["internal/abi.NoEscape"], unfollowed := true, recurses := true, apart := false }
def RowsSizesSaid : Prop := rowsSizesRow.holds Try.pinned (OpenSpec.ofChange rowsSizesSpec)

/-- ITS FALSE NEIGHBOUR: 'it returns false'. Refute it at one input. -/
def rowsSizesWrong : ChangeSpec := { name := "rowsSizes", fn := fun _ => fun
  | [d] => { results := [.lit (.bool false)], args := [d] }
  | _ => none }
def RowsSizesWrongFalsely : Prop := rowsSizesRow.holds Try.pinned (OpenSpec.ofChange rowsSizesWrong)

/- THE SECOND FORM. 'bulk': how many values and letters a reading holds, each counted each time it is reached (what is shared counts as often as it is met; a slice's spare places count too). A statement '..UptoSaid' is the law's where the arguments, and the package variables that the reading takes, are together of bulk at most 1048576: NARROWER than '..Said'. Prove '..Said' where nothing that the law and all that it calls make is longer than what came in: it says more and counts as full. Else prove '..UptoSaid'. A law counts once. -/
mutual
def uptoBulk {H : Type} : DataW H → Nat
  | .lit (.string bytes) => bytes.length + 1
  | .lit _ => 1
  | .nil => 1
  | .ptr d => uptoBulk d + 1
  | .slice elems spare => uptoBulkAll elems + uptoBulkAll spare + 1
  | .agg parts => uptoBulkAll parts + 1
  | .iface _ d => uptoBulk d + 1
  | .map entries => uptoBulkEntries entries + 1
  | .held _ => 1
def uptoBulkAll {H : Type} : List (DataW H) → Nat
  | [] => 0
  | d :: r => uptoBulk d + uptoBulkAll r
def uptoBulkEntries {H : Type} : List (Lit × DataW H) → Nat
  | [] => 0
  | x :: r => uptoBulkEntry x + uptoBulkEntries r
def uptoBulkEntry {H : Type} : Lit × DataW H → Nat
  | (.string bytes, d) => bytes.length + uptoBulk d + 1
  | (_, d) => uptoBulk d + 1
 end
def uptoSmall : (H : Type) → List (DataW H) → Bool := fun _ ds => decide (uptoBulkAll ds ≤ 1048576)
def OpenSpec.upto (s : _root_.Go.ChangeSpec) : _root_.Go.OpenSpec := { _root_.Go.OpenSpec.ofChange s with cond := some uptoSmall }

/-- 'bonsailaw21.RowsWrites', WHERE WHAT IT READS IS OF BULK AT MOST 1048576: true; the input reads as it did. -/
def rowsWritesUptoRow : OpenClaim := { program := "ytfgnjndfnijjoaa", sum := "073d1607b6e8a49fdddb73654afd5f7a1503cb26370c7fbee96a20aad4b08f87", func := "bonsai/bonsailaw21.RowsWrites", spec := "rowsWrites", inPlace := ["internal/abi.NoEscape"], unfollowed := true, recurses := true, apart := false, narrowed := true }
def RowsWritesUptoSaid : Prop := rowsWritesUptoRow.holds Try.pinned (OpenSpec.upto rowsWritesSpec)

/-- 'bonsailaw21.RowsReads', WHERE WHAT IT READS IS OF BULK AT MOST 1048576: true; the input reads as it did. -/
def rowsReadsUptoRow : OpenClaim := { program := "ytfgnjndfnijjoaa", sum := "073d1607b6e8a49fdddb73654afd5f7a1503cb26370c7fbee96a20aad4b08f87", func := "bonsai/bonsailaw21.RowsReads", spec := "rowsReads", inPlace := ["internal/abi.NoEscape"], unfollowed := true, recurses := true, apart := false, narrowed := true }
def RowsReadsUptoSaid : Prop := rowsReadsUptoRow.holds Try.pinned (OpenSpec.upto rowsReadsSpec)

/-- 'bonsailaw21.RowsBack', WHERE WHAT IT READS IS OF BULK AT MOST 1048576: true; the input reads as it did. -/
def rowsBackUptoRow : OpenClaim := { program := "ytfgnjndfnijjoaa", sum := "073d1607b6e8a49fdddb73654afd5f7a1503cb26370c7fbee96a20aad4b08f87", func := "bonsai/bonsailaw21.RowsBack", spec := "rowsBack", inPlace := ["internal/abi.NoEscape"], unfollowed := true, recurses := true, apart := false, narrowed := true }
def RowsBackUptoSaid : Prop := rowsBackUptoRow.holds Try.pinned (OpenSpec.upto rowsBackSpec)

/-- 'bonsailaw21.RowsSizes', WHERE WHAT IT READS IS OF BULK AT MOST 1048576: true; the input reads as it did. -/
def rowsSizesUptoRow : OpenClaim := { program := "ytfgnjndfnijjoaa", sum := "073d1607b6e8a49fdddb73654afd5f7a1503cb26370c7fbee96a20aad4b08f87", func := "bonsai/bonsailaw21.RowsSizes", spec := "rowsSizes", inPlace := ["internal/abi.NoEscape"], unfollowed := true, recurses := true, apart := false, narrowed := true }
def RowsSizesUptoSaid : Prop := rowsSizesUptoRow.holds Try.pinned (OpenSpec.upto rowsSizesSpec)

end Rows
end Go.Proofs.Ytfgnjndfnijjoaa
