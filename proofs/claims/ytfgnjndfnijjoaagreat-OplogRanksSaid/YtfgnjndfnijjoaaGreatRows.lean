/-
  No cell of these rows narrows 'for every input' (looked for: loops, veiled, ifaces, maps, wideKeys, modest, calm, conditions, laid).
  DERIVED. THE GIVEN ROWS OF THIS SEAT. 6 by the template 'for every input the law returns true; each argument reads behind the call as it read before'; 0 by the template 'total and deterministic' (their statements: YtfgnjndfnijjoaaGreatTotals.lean).
  GIVEN WITH THE SEED: the statements are not yours to turn. If you find one false, say at which input.
  Laid BY PROGRAM, IN A SANDBOX (cutbox-rows.mjs): the forced cells as the released guide's own fill.sh prints them over the translation 7d598d8b51091b28… (all of the seat's roots in one cut). By AI agents, Wed Nov 11 2026. No macro, syntax, notation, axiom, sorry.
-/
import Derived.Test.YtfgnjndfnijjoaaGreatChecked
import GoSem.Claim
import GoSem.ClaimJoined
import GoSem.ClaimMapViews
import Derived.JoinedTies
import Derived.KernelRfl
namespace Go.Proofs.YtfgnjndfnijjoaaGreat
/- THE CELL 'sum', in the pinned program and in every row, IS THE sha256 OF THE DUMP (.gsa) THAT YtfgnjndfnijjoaaGreatProg.lean LOADS. Nothing in Lean hashes anything: it is a label: what it is worth is what the hold of that sum in a sandbox is worth. -/
noncomputable def Tryz.pinned : Pinned := { name := "ytfgnjndfnijjoaagreat", sum := "7d598d8b51091b28e4452f7b1d748a33a2ac596c56b9460585b097ef0c78bef8", checked := Tryz.checked }
namespace Rows
def none {H : Type} : Left H := { results := [], args := [] }

/-- 'bonsailaw19.OplogWrites': WHATEVER THE INPUT: true; the input reads as it did. -/
def oplogWritesSpec : ChangeSpec := { name := "oplogWrites", fn := fun _ => fun
  | [d1, d2, d3] => { results := [.lit (.bool true)], args := [d1, d2, d3] }
  | _ => none }
def oplogWritesRow : OpenClaim := { program := "ytfgnjndfnijjoaagreat", sum := "7d598d8b51091b28e4452f7b1d748a33a2ac596c56b9460585b097ef0c78bef8", func := "bonsai/bonsailaw19.OplogWrites", spec := "oplogWrites", inPlace := ["internal/abi.NoEscape"], unfollowed := true, recurses := true, apart := false }
def OplogWritesSaid : Prop := oplogWritesRow.holds Tryz.pinned (OpenSpec.ofChange oplogWritesSpec)

/-- ITS FALSE NEIGHBOUR: 'it returns false'. Refute it at one input. -/
def oplogWritesWrong : ChangeSpec := { name := "oplogWrites", fn := fun _ => fun
  | [d1, d2, d3] => { results := [.lit (.bool false)], args := [d1, d2, d3] }
  | _ => none }
def OplogWritesWrongFalsely : Prop := oplogWritesRow.holds Tryz.pinned (OpenSpec.ofChange oplogWritesWrong)

/-- 'bonsailaw19.OplogReads': WHATEVER THE INPUT: true; the input reads as it did. -/
def oplogReadsSpec : ChangeSpec := { name := "oplogReads", fn := fun _ => fun
  | [d1, d2, d3] => { results := [.lit (.bool true)], args := [d1, d2, d3] }
  | _ => none }
def oplogReadsRow : OpenClaim := { program := "ytfgnjndfnijjoaagreat", sum := "7d598d8b51091b28e4452f7b1d748a33a2ac596c56b9460585b097ef0c78bef8", func := "bonsai/bonsailaw19.OplogReads", spec := "oplogReads", inPlace := ["internal/abi.NoEscape"], unfollowed := true, recurses := true, apart := false }
def OplogReadsSaid : Prop := oplogReadsRow.holds Tryz.pinned (OpenSpec.ofChange oplogReadsSpec)

/-- ITS FALSE NEIGHBOUR: 'it returns false'. Refute it at one input. -/
def oplogReadsWrong : ChangeSpec := { name := "oplogReads", fn := fun _ => fun
  | [d1, d2, d3] => { results := [.lit (.bool false)], args := [d1, d2, d3] }
  | _ => none }
def OplogReadsWrongFalsely : Prop := oplogReadsRow.holds Tryz.pinned (OpenSpec.ofChange oplogReadsWrong)

/-- 'bonsailaw19.OplogBack': WHATEVER THE INPUT: true; the input reads as it did. -/
def oplogBackSpec : ChangeSpec := { name := "oplogBack", fn := fun _ => fun
  | [d1, d2] => { results := [.lit (.bool true)], args := [d1, d2] }
  | _ => none }
def oplogBackRow : OpenClaim := { program := "ytfgnjndfnijjoaagreat", sum := "7d598d8b51091b28e4452f7b1d748a33a2ac596c56b9460585b097ef0c78bef8", func := "bonsai/bonsailaw19.OplogBack", spec := "oplogBack", inPlace := ["internal/abi.NoEscape"], unfollowed := true, recurses := true, apart := false }
def OplogBackSaid : Prop := oplogBackRow.holds Tryz.pinned (OpenSpec.ofChange oplogBackSpec)

/-- ITS FALSE NEIGHBOUR: 'it returns false'. Refute it at one input. -/
def oplogBackWrong : ChangeSpec := { name := "oplogBack", fn := fun _ => fun
  | [d1, d2] => { results := [.lit (.bool false)], args := [d1, d2] }
  | _ => none }
def OplogBackWrongFalsely : Prop := oplogBackRow.holds Tryz.pinned (OpenSpec.ofChange oplogBackWrong)

/-- 'bonsailaw19.OplogRanks': WHATEVER THE INPUT: true; the input reads as it did. -/
def oplogRanksSpec : ChangeSpec := { name := "oplogRanks", fn := fun _ => fun
  | [d1, d2, d3] => { results := [.lit (.bool true)], args := [d1, d2, d3] }
  | _ => none }
def oplogRanksRow : OpenClaim := { program := "ytfgnjndfnijjoaagreat", sum := "7d598d8b51091b28e4452f7b1d748a33a2ac596c56b9460585b097ef0c78bef8", func := "bonsai/bonsailaw19.OplogRanks", spec := "oplogRanks", inPlace := ["internal/abi.NoEscape"], unfollowed := true, recurses := true, apart := false }
def OplogRanksSaid : Prop := oplogRanksRow.holds Tryz.pinned (OpenSpec.ofChange oplogRanksSpec)

/-- ITS FALSE NEIGHBOUR: 'it returns false'. Refute it at one input. -/
def oplogRanksWrong : ChangeSpec := { name := "oplogRanks", fn := fun _ => fun
  | [d1, d2, d3] => { results := [.lit (.bool false)], args := [d1, d2, d3] }
  | _ => none }
def OplogRanksWrongFalsely : Prop := oplogRanksRow.holds Tryz.pinned (OpenSpec.ofChange oplogRanksWrong)

/-- 'bonsailaw19.OplogApart': WHATEVER THE INPUT: true; the input reads as it did. -/
def oplogApartSpec : ChangeSpec := { name := "oplogApart", fn := fun _ => fun
  | [d1, d2] => { results := [.lit (.bool true)], args := [d1, d2] }
  | _ => none }
def oplogApartRow : OpenClaim := { program := "ytfgnjndfnijjoaagreat", sum := "7d598d8b51091b28e4452f7b1d748a33a2ac596c56b9460585b097ef0c78bef8", func := "bonsai/bonsailaw19.OplogApart", spec := "oplogApart", inPlace := ["internal/abi.NoEscape"], unfollowed := true, recurses := true, apart := false }
def OplogApartSaid : Prop := oplogApartRow.holds Tryz.pinned (OpenSpec.ofChange oplogApartSpec)

/-- ITS FALSE NEIGHBOUR: 'it returns false'. Refute it at one input. -/
def oplogApartWrong : ChangeSpec := { name := "oplogApart", fn := fun _ => fun
  | [d1, d2] => { results := [.lit (.bool false)], args := [d1, d2] }
  | _ => none }
def OplogApartWrongFalsely : Prop := oplogApartRow.holds Tryz.pinned (OpenSpec.ofChange oplogApartWrong)

/-- 'bonsailaw21.RowsColumns': WHATEVER THE INPUT: true; the input reads as it did. -/
def rowsColumnsSpec : ChangeSpec := { name := "rowsColumns", fn := fun _ => fun
  | [d] => { results := [.lit (.bool true)], args := [d] }
  | _ => none }
def rowsColumnsRow : OpenClaim := { program := "ytfgnjndfnijjoaagreat", sum := "7d598d8b51091b28e4452f7b1d748a33a2ac596c56b9460585b097ef0c78bef8", func := "bonsai/bonsailaw21.RowsColumns", spec := "rowsColumns", inPlace := ["internal/abi.NoEscape"], unfollowed := true, recurses := true, apart := false }
def RowsColumnsSaid : Prop := rowsColumnsRow.holds Tryz.pinned (OpenSpec.ofChange rowsColumnsSpec)

/-- ITS FALSE NEIGHBOUR: 'it returns false'. Refute it at one input. -/
def rowsColumnsWrong : ChangeSpec := { name := "rowsColumns", fn := fun _ => fun
  | [d] => { results := [.lit (.bool false)], args := [d] }
  | _ => none }
def RowsColumnsWrongFalsely : Prop := rowsColumnsRow.holds Tryz.pinned (OpenSpec.ofChange rowsColumnsWrong)

/- THE SECOND FORM. 'bulk': how many values and letters a reading holds, each counted each time it is reached (what is shared counts as often as it is met; a slice's spare places count too). A statement '..UptoSaid' is the law's where the arguments, and the package variables that the reading takes, are together of bulk at most 1048576: NARROWER than '..Said'. Prove '..Said' where nothing that the law and all that it calls make is longer than what came in: it says more and counts as full. Else prove '..UptoSaid'. A law counts once. -/
mutual
def uptoBulk {H : Type} : DataW H → Nat
  | .lit (.string bytes) => bytes.length + 1
  | .lit _ => 1
  | .nil => 1
  | .ptr d => uptoBulk d + 1
  | .slice elems spare => uptoBulkAll elems + uptoBulkAll spare + 1
  | .agg parts => uptoBulkAll parts + 1
  | .iface _ d => uptoBulk d + 1
  | .map entries => uptoBulkEntries entries + 1
  | .held _ => 1
def uptoBulkAll {H : Type} : List (DataW H) → Nat
  | [] => 0
  | d :: r => uptoBulk d + uptoBulkAll r
def uptoBulkEntries {H : Type} : List (Lit × DataW H) → Nat
  | [] => 0
  | x :: r => uptoBulkEntry x + uptoBulkEntries r
def uptoBulkEntry {H : Type} : Lit × DataW H → Nat
  | (.string bytes, d) => bytes.length + uptoBulk d + 1
  | (_, d) => uptoBulk d + 1
 end
def uptoSmall : (H : Type) → List (DataW H) → Bool := fun _ ds => decide (uptoBulkAll ds ≤ 1048576)
def OpenSpec.upto (s : _root_.Go.ChangeSpec) : _root_.Go.OpenSpec := { _root_.Go.OpenSpec.ofChange s with cond := some uptoSmall }

/-- 'bonsailaw19.OplogWrites', WHERE WHAT IT READS IS OF BULK AT MOST 1048576: true; the input reads as it did. -/
def oplogWritesUptoRow : OpenClaim := { program := "ytfgnjndfnijjoaagreat", sum := "7d598d8b51091b28e4452f7b1d748a33a2ac596c56b9460585b097ef0c78bef8", func := "bonsai/bonsailaw19.OplogWrites", spec := "oplogWrites", inPlace := ["internal/abi.NoEscape"], unfollowed := true, recurses := true, apart := false, narrowed := true }
def OplogWritesUptoSaid : Prop := oplogWritesUptoRow.holds Tryz.pinned (OpenSpec.upto oplogWritesSpec)

/-- 'bonsailaw19.OplogReads', WHERE WHAT IT READS IS OF BULK AT MOST 1048576: true; the input reads as it did. -/
def oplogReadsUptoRow : OpenClaim := { program := "ytfgnjndfnijjoaagreat", sum := "7d598d8b51091b28e4452f7b1d748a33a2ac596c56b9460585b097ef0c78bef8", func := "bonsai/bonsailaw19.OplogReads", spec := "oplogReads", inPlace := ["internal/abi.NoEscape"], unfollowed := true, recurses := true, apart := false, narrowed := true }
def OplogReadsUptoSaid : Prop := oplogReadsUptoRow.holds Tryz.pinned (OpenSpec.upto oplogReadsSpec)

/-- 'bonsailaw19.OplogBack', WHERE WHAT IT READS IS OF BULK AT MOST 1048576: true; the input reads as it did. -/
def oplogBackUptoRow : OpenClaim := { program := "ytfgnjndfnijjoaagreat", sum := "7d598d8b51091b28e4452f7b1d748a33a2ac596c56b9460585b097ef0c78bef8", func := "bonsai/bonsailaw19.OplogBack", spec := "oplogBack", inPlace := ["internal/abi.NoEscape"], unfollowed := true, recurses := true, apart := false, narrowed := true }
def OplogBackUptoSaid : Prop := oplogBackUptoRow.holds Tryz.pinned (OpenSpec.upto oplogBackSpec)

/-- 'bonsailaw19.OplogRanks', WHERE WHAT IT READS IS OF BULK AT MOST 1048576: true; the input reads as it did. -/
def oplogRanksUptoRow : OpenClaim := { program := "ytfgnjndfnijjoaagreat", sum := "7d598d8b51091b28e4452f7b1d748a33a2ac596c56b9460585b097ef0c78bef8", func := "bonsai/bonsailaw19.OplogRanks", spec := "oplogRanks", inPlace := ["internal/abi.NoEscape"], unfollowed := true, recurses := true, apart := false, narrowed := true }
def OplogRanksUptoSaid : Prop := oplogRanksUptoRow.holds Tryz.pinned (OpenSpec.upto oplogRanksSpec)

/-- 'bonsailaw19.OplogApart', WHERE WHAT IT READS IS OF BULK AT MOST 1048576: true; the input reads as it did. -/
def oplogApartUptoRow : OpenClaim := { program := "ytfgnjndfnijjoaagreat", sum := "7d598d8b51091b28e4452f7b1d748a33a2ac596c56b9460585b097ef0c78bef8", func := "bonsai/bonsailaw19.OplogApart", spec := "oplogApart", inPlace := ["internal/abi.NoEscape"], unfollowed := true, recurses := true, apart := false, narrowed := true }
def OplogApartUptoSaid : Prop := oplogApartUptoRow.holds Tryz.pinned (OpenSpec.upto oplogApartSpec)

/-- 'bonsailaw21.RowsColumns', WHERE WHAT IT READS IS OF BULK AT MOST 1048576: true; the input reads as it did. -/
def rowsColumnsUptoRow : OpenClaim := { program := "ytfgnjndfnijjoaagreat", sum := "7d598d8b51091b28e4452f7b1d748a33a2ac596c56b9460585b097ef0c78bef8", func := "bonsai/bonsailaw21.RowsColumns", spec := "rowsColumns", inPlace := ["internal/abi.NoEscape"], unfollowed := true, recurses := true, apart := false, narrowed := true }
def RowsColumnsUptoSaid : Prop := rowsColumnsUptoRow.holds Tryz.pinned (OpenSpec.upto rowsColumnsSpec)

end Rows
end Go.Proofs.YtfgnjndfnijjoaaGreat
