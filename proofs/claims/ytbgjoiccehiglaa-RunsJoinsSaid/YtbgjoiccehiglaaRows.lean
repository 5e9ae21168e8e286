/-
  No cell of these rows narrows 'for every input' (looked for: loops, veiled, ifaces, maps, wideKeys, modest, calm, conditions, laid).
  DERIVED. THE GIVEN ROWS OF THIS SEAT. 21 by the template 'for every input the law returns true; each argument reads behind the call as it read before'; 0 by the template 'total and deterministic' (their statements: YtbgjoiccehiglaaTotals.lean).
  GIVEN WITH THE SEED: the statements are not yours to turn. If you find one false, say at which input.
  Laid BY PROGRAM, IN A SANDBOX (cutbox-rows.mjs): the forced cells as the released guide's own fill.sh prints them over the translation 16756e19f463cbf2… (all of the seat's roots in one cut). By AI agents, Wed Nov 11 2026. No macro, syntax, notation, axiom, sorry.
-/
import Derived.Test.YtbgjoiccehiglaaChecked
import GoSem.Claim
import GoSem.ClaimJoined
import GoSem.ClaimMapViews
import Derived.JoinedTies
import Derived.KernelRfl
namespace Go.Proofs.Ytbgjoiccehiglaa
/- THE CELL 'sum', in the pinned program and in every row, IS THE sha256 OF THE DUMP (.gsa) THAT YtbgjoiccehiglaaProg.lean LOADS. Nothing in Lean hashes anything: it is a label: what it is worth is what the hold of that sum in a sandbox is worth. -/
noncomputable def Try.pinned : Pinned := { name := "ytbgjoiccehiglaa", sum := "16756e19f463cbf294817e19975230a7500c74e94bd2222893cb5b624b4c3d14", checked := Try.checked }
namespace Rows
def none {H : Type} : Left H := { results := [], args := [] }

/-- 'bonsailaw04.WordTells': WHATEVER THE INPUT: true; the input reads as it did. -/
def wordTellsSpec : ChangeSpec := { name := "wordTells", fn := fun _ => fun
  | [d1, d2] => { results := [.lit (.bool true)], args := [d1, d2] }
  | _ => none }
def wordTellsRow : OpenClaim := { program := "ytbgjoiccehiglaa", sum := "16756e19f463cbf294817e19975230a7500c74e94bd2222893cb5b624b4c3d14", func := "bonsai/bonsailaw04.WordTells", spec := "wordTells", unfollowed := true, recurses := true, apart := false }
def WordTellsSaid : Prop := wordTellsRow.holds Try.pinned (OpenSpec.ofChange wordTellsSpec)

/-- ITS FALSE NEIGHBOUR: 'it returns false'. Refute it at one input. -/
def wordTellsWrong : ChangeSpec := { name := "wordTells", fn := fun _ => fun
  | [d1, d2] => { results := [.lit (.bool false)], args := [d1, d2] }
  | _ => none }
def WordTellsWrongFalsely : Prop := wordTellsRow.holds Try.pinned (OpenSpec.ofChange wordTellsWrong)

/-- 'bonsailaw04.WordTakes': WHATEVER THE INPUT: true; the input reads as it did. -/
def wordTakesSpec : ChangeSpec := { name := "wordTakes", fn := fun _ => fun
  | [d1, d2, d3] => { results := [.lit (.bool true)], args := [d1, d2, d3] }
  | _ => none }
def wordTakesRow : OpenClaim := { program := "ytbgjoiccehiglaa", sum := "16756e19f463cbf294817e19975230a7500c74e94bd2222893cb5b624b4c3d14", func := "bonsai/bonsailaw04.WordTakes", spec := "wordTakes", unfollowed := true, recurses := true, apart := false }
def WordTakesSaid : Prop := wordTakesRow.holds Try.pinned (OpenSpec.ofChange wordTakesSpec)

/-- ITS FALSE NEIGHBOUR: 'it returns false'. Refute it at one input. -/
def wordTakesWrong : ChangeSpec := { name := "wordTakes", fn := fun _ => fun
  | [d1, d2, d3] => { results := [.lit (.bool false)], args := [d1, d2, d3] }
  | _ => none }
def WordTakesWrongFalsely : Prop := wordTakesRow.holds Try.pinned (OpenSpec.ofChange wordTakesWrong)

/-- 'bonsailaw04.WordRunes': WHATEVER THE INPUT: true; the input reads as it did. -/
def wordRunesSpec : ChangeSpec := { name := "wordRunes", fn := fun _ => fun
  | [d] => { results := [.lit (.bool true)], args := [d] }
  | _ => none }
def wordRunesRow : OpenClaim := { program := "ytbgjoiccehiglaa", sum := "16756e19f463cbf294817e19975230a7500c74e94bd2222893cb5b624b4c3d14", func := "bonsai/bonsailaw04.WordRunes", spec := "wordRunes", unfollowed := true, recurses := true, apart := false }
def WordRunesSaid : Prop := wordRunesRow.holds Try.pinned (OpenSpec.ofChange wordRunesSpec)

/-- ITS FALSE NEIGHBOUR: 'it returns false'. Refute it at one input. -/
def wordRunesWrong : ChangeSpec := { name := "wordRunes", fn := fun _ => fun
  | [d] => { results := [.lit (.bool false)], args := [d] }
  | _ => none }
def WordRunesWrongFalsely : Prop := wordRunesRow.holds Try.pinned (OpenSpec.ofChange wordRunesWrong)

/-- 'bonsailaw04.WordParts': WHATEVER THE INPUT: true; the input reads as it did. -/
def wordPartsSpec : ChangeSpec := { name := "wordParts", fn := fun _ => fun
  | [d1, d2, d3] => { results := [.lit (.bool true)], args := [d1, d2, d3] }
  | _ => none }
def wordPartsRow : OpenClaim := { program := "ytbgjoiccehiglaa", sum := "16756e19f463cbf294817e19975230a7500c74e94bd2222893cb5b624b4c3d14", func := "bonsai/bonsailaw04.WordParts", spec := "wordParts", unfollowed := true, recurses := true, apart := false }
def WordPartsSaid : Prop := wordPartsRow.holds Try.pinned (OpenSpec.ofChange wordPartsSpec)

/-- ITS FALSE NEIGHBOUR: 'it returns false'. Refute it at one input. -/
def wordPartsWrong : ChangeSpec := { name := "wordParts", fn := fun _ => fun
  | [d1, d2, d3] => { results := [.lit (.bool false)], args := [d1, d2, d3] }
  | _ => none }
def WordPartsWrongFalsely : Prop := wordPartsRow.holds Try.pinned (OpenSpec.ofChange wordPartsWrong)

/-- 'bonsailaw04.WordBack': WHATEVER THE INPUT: true; the input reads as it did. -/
def wordBackSpec : ChangeSpec := { name := "wordBack", fn := fun _ => fun
  | [d1, d2] => { results := [.lit (.bool true)], args := [d1, d2] }
  | _ => none }
def wordBackRow : OpenClaim := { program := "ytbgjoiccehiglaa", sum := "16756e19f463cbf294817e19975230a7500c74e94bd2222893cb5b624b4c3d14", func := "bonsai/bonsailaw04.WordBack", spec := "wordBack", unfollowed := true, recurses := true, apart := false }
def WordBackSaid : Prop := wordBackRow.holds Try.pinned (OpenSpec.ofChange wordBackSpec)

/-- ITS FALSE NEIGHBOUR: 'it returns false'. Refute it at one input. -/
def wordBackWrong : ChangeSpec := { name := "wordBack", fn := fun _ => fun
  | [d1, d2] => { results := [.lit (.bool false)], args := [d1, d2] }
  | _ => none }
def WordBackWrongFalsely : Prop := wordBackRow.holds Try.pinned (OpenSpec.ofChange wordBackWrong)

/-- 'bonsailaw04.WordCuts': WHATEVER THE INPUT: true; the input reads as it did. -/
def wordCutsSpec : ChangeSpec := { name := "wordCuts", fn := fun _ => fun
  | [d1, d2, d3] => { results := [.lit (.bool true)], args := [d1, d2, d3] }
  | _ => none }
def wordCutsRow : OpenClaim := { program := "ytbgjoiccehiglaa", sum := "16756e19f463cbf294817e19975230a7500c74e94bd2222893cb5b624b4c3d14", func := "bonsai/bonsailaw04.WordCuts", spec := "wordCuts", unfollowed := true, recurses := true, apart := false }
def WordCutsSaid : Prop := wordCutsRow.holds Try.pinned (OpenSpec.ofChange wordCutsSpec)

/-- ITS FALSE NEIGHBOUR: 'it returns false'. Refute it at one input. -/
def wordCutsWrong : ChangeSpec := { name := "wordCuts", fn := fun _ => fun
  | [d1, d2, d3] => { results := [.lit (.bool false)], args := [d1, d2, d3] }
  | _ => none }
def WordCutsWrongFalsely : Prop := wordCutsRow.holds Try.pinned (OpenSpec.ofChange wordCutsWrong)

/-- 'bonsailaw06.RunsTells': WHATEVER THE INPUT: true; the input reads as it did. -/
def runsTellsSpec : ChangeSpec := { name := "runsTells", fn := fun _ => fun
  | [d1, d2, d3] => { results := [.lit (.bool true)], args := [d1, d2, d3] }
  | _ => none }
def runsTellsRow : OpenClaim := { program := "ytbgjoiccehiglaa", sum := "16756e19f463cbf294817e19975230a7500c74e94bd2222893cb5b624b4c3d14", func := "bonsai/bonsailaw06.RunsTells", spec := "runsTells", inPlace := ["internal/abi.NoEscape"], unfollowed := true, recurses := true, apart := false }
def RunsTellsSaid : Prop := runsTellsRow.holds Try.pinned (OpenSpec.ofChange runsTellsSpec)

/-- ITS FALSE NEIGHBOUR: 'it returns false'. Refute it at one input. -/
def runsTellsWrong : ChangeSpec := { name := "runsTells", fn := fun _ => fun
  | [d1, d2, d3] => { results := [.lit (.bool false)], args := [d1, d2, d3] }
  | _ => none }
def RunsTellsWrongFalsely : Prop := runsTellsRow.holds Try.pinned (OpenSpec.ofChange runsTellsWrong)

/-- 'bonsailaw06.RunsReads': WHATEVER THE INPUT: true; the input reads as it did. -/
def runsReadsSpec : ChangeSpec := { name := "runsReads", fn := fun _ => fun
  | [d1, d2] => { results := [.lit (.bool true)], args := [d1, d2] }
  | _ => none }
def runsReadsRow : OpenClaim := { program := "ytbgjoiccehiglaa", sum := "16756e19f463cbf294817e19975230a7500c74e94bd2222893cb5b624b4c3d14", func := "bonsai/bonsailaw06.RunsReads", spec := "runsReads", inPlace := ["internal/abi.NoEscape"], unfollowed := true, recurses := true, apart := false }
def RunsReadsSaid : Prop := runsReadsRow.holds Try.pinned (OpenSpec.ofChange runsReadsSpec)

/-- ITS FALSE NEIGHBOUR: 'it returns false'. Refute it at one input. -/
def runsReadsWrong : ChangeSpec := { name := "runsReads", fn := fun _ => fun
  | [d1, d2] => { results := [.lit (.bool false)], args := [d1, d2] }
  | _ => none }
def RunsReadsWrongFalsely : Prop := runsReadsRow.holds Try.pinned (OpenSpec.ofChange runsReadsWrong)

/-- 'bonsailaw06.RunsBack': WHATEVER THE INPUT: true; the input reads as it did. -/
def runsBackSpec : ChangeSpec := { name := "runsBack", fn := fun _ => fun
  | [d1, d2, d3] => { results := [.lit (.bool true)], args := [d1, d2, d3] }
  | _ => none }
def runsBackRow : OpenClaim := { program := "ytbgjoiccehiglaa", sum := "16756e19f463cbf294817e19975230a7500c74e94bd2222893cb5b624b4c3d14", func := "bonsai/bonsailaw06.RunsBack", spec := "runsBack", inPlace := ["internal/abi.NoEscape"], unfollowed := true, recurses := true, apart := false }
def RunsBackSaid : Prop := runsBackRow.holds Try.pinned (OpenSpec.ofChange runsBackSpec)

/-- ITS FALSE NEIGHBOUR: 'it returns false'. Refute it at one input. -/
def runsBackWrong : ChangeSpec := { name := "runsBack", fn := fun _ => fun
  | [d1, d2, d3] => { results := [.lit (.bool false)], args := [d1, d2, d3] }
  | _ => none }
def RunsBackWrongFalsely : Prop := runsBackRow.holds Try.pinned (OpenSpec.ofChange runsBackWrong)

/-- 'bonsailaw06.RunsFew': WHATEVER THE INPUT: true; the input reads as it did. -/
def runsFewSpec : ChangeSpec := { name := "runsFew", fn := fun _ => fun
  | [d] => { results := [.lit (.bool true)], args := [d] }
  | _ => none }
def runsFewRow : OpenClaim := { program := "ytbgjoiccehiglaa", sum := "16756e19f463cbf294817e19975230a7500c74e94bd2222893cb5b624b4c3d14", func := "bonsai/bonsailaw06.RunsFew", spec := "runsFew", inPlace := ["internal/abi.NoEscape"], unfollowed := true, recurses := true, apart := false }
def RunsFewSaid : Prop := runsFewRow.holds Try.pinned (OpenSpec.ofChange runsFewSpec)

/-- ITS FALSE NEIGHBOUR: 'it returns false'. Refute it at one input. -/
def runsFewWrong : ChangeSpec := { name := "runsFew", fn := fun _ => fun
  | [d] => { results := [.lit (.bool false)], args := [d] }
  | _ => none }
def RunsFewWrongFalsely : Prop := runsFewRow.holds Try.pinned (OpenSpec.ofChange runsFewWrong)

/-- 'bonsailaw06.RunsJoins': WHATEVER THE INPUT: true; the input reads as it did. -/
def runsJoinsSpec : ChangeSpec := { name := "runsJoins", fn := fun _ => fun
  | [d1, d2] => { results := [.lit (.bool true)], args := [d1, d2] }
  | _ => none }
def runsJoinsRow : OpenClaim := { program := "ytbgjoiccehiglaa", sum := "16756e19f463cbf294817e19975230a7500c74e94bd2222893cb5b624b4c3d14", func := "bonsai/bonsailaw06.RunsJoins", spec := "runsJoins", inPlace := ["internal/abi.NoEscape"], unfollowed := true, recurses := true, apart := false }
def RunsJoinsSaid : Prop := runsJoinsRow.holds Try.pinned (OpenSpec.ofChange runsJoinsSpec)

/-- ITS FALSE NEIGHBOUR: 'it returns false'. Refute it at one input. -/
def runsJoinsWrong : ChangeSpec := { name := "runsJoins", fn := fun _ => fun
  | [d1, d2] => { results := [.lit (.bool false)], args := [d1, d2] }
  | _ => none }
def RunsJoinsWrongFalsely : Prop := runsJoinsRow.holds Try.pinned (OpenSpec.ofChange runsJoinsWrong)

/-- 'bonsailaw07.FlagsTells': WHATEVER THE INPUT: true; the input reads as it did. -/
def flagsTellsSpec : ChangeSpec := { name := "flagsTells", fn := fun _ => fun
  | [d1, d2, d3] => { results := [.lit (.bool true)], args := [d1, d2, d3] }
  | _ => none }
def flagsTellsRow : OpenClaim := { program := "ytbgjoiccehiglaa", sum := "16756e19f463cbf294817e19975230a7500c74e94bd2222893cb5b624b4c3d14", func := "bonsai/bonsailaw07.FlagsTells", spec := "flagsTells", inPlace := ["internal/abi.NoEscape"], unfollowed := true, recurses := true, apart := false }
def FlagsTellsSaid : Prop := flagsTellsRow.holds Try.pinned (OpenSpec.ofChange flagsTellsSpec)

/-- ITS FALSE NEIGHBOUR: 'it returns false'. Refute it at one input. -/
def flagsTellsWrong : ChangeSpec := { name := "flagsTells", fn := fun _ => fun
  | [d1, d2, d3] => { results := [.lit (.bool false)], args := [d1, d2, d3] }
  | _ => none }
def FlagsTellsWrongFalsely : Prop := flagsTellsRow.holds Try.pinned (OpenSpec.ofChange flagsTellsWrong)

/-- 'bonsailaw07.FlagsReads': WHATEVER THE INPUT: true; the input reads as it did. -/
def flagsReadsSpec : ChangeSpec := { name := "flagsReads", fn := fun _ => fun
  | [d1, d2] => { results := [.lit (.bool true)], args := [d1, d2] }
  | _ => none }
def flagsReadsRow : OpenClaim := { program := "ytbgjoiccehiglaa", sum := "16756e19f463cbf294817e19975230a7500c74e94bd2222893cb5b624b4c3d14", func := "bonsai/bonsailaw07.FlagsReads", spec := "flagsReads", inPlace := ["internal/abi.NoEscape"], unfollowed := true, recurses := true, apart := false }
def FlagsReadsSaid : Prop := flagsReadsRow.holds Try.pinned (OpenSpec.ofChange flagsReadsSpec)

/-- ITS FALSE NEIGHBOUR: 'it returns false'. Refute it at one input. -/
def flagsReadsWrong : ChangeSpec := { name := "flagsReads", fn := fun _ => fun
  | [d1, d2] => { results := [.lit (.bool false)], args := [d1, d2] }
  | _ => none }
def FlagsReadsWrongFalsely : Prop := flagsReadsRow.holds Try.pinned (OpenSpec.ofChange flagsReadsWrong)

/-- 'bonsailaw07.FlagsBack': WHATEVER THE INPUT: true; the input reads as it did. -/
def flagsBackSpec : ChangeSpec := { name := "flagsBack", fn := fun _ => fun
  | [d1, d2, d3] => { results := [.lit (.bool true)], args := [d1, d2, d3] }
  | _ => none }
def flagsBackRow : OpenClaim := { program := "ytbgjoiccehiglaa", sum := "16756e19f463cbf294817e19975230a7500c74e94bd2222893cb5b624b4c3d14", func := "bonsai/bonsailaw07.FlagsBack", spec := "flagsBack", inPlace := ["internal/abi.NoEscape"], unfollowed := true, recurses := true, apart := false }
def FlagsBackSaid : Prop := flagsBackRow.holds Try.pinned (OpenSpec.ofChange flagsBackSpec)

/-- ITS FALSE NEIGHBOUR: 'it returns false'. Refute it at one input. -/
def flagsBackWrong : ChangeSpec := { name := "flagsBack", fn := fun _ => fun
  | [d1, d2, d3] => { results := [.lit (.bool false)], args := [d1, d2, d3] }
  | _ => none }
def FlagsBackWrongFalsely : Prop := flagsBackRow.holds Try.pinned (OpenSpec.ofChange flagsBackWrong)

/-- 'bonsailaw07.FlagsTurned': WHATEVER THE INPUT: true; the input reads as it did. -/
def flagsTurnedSpec : ChangeSpec := { name := "flagsTurned", fn := fun _ => fun
  | [d] => { results := [.lit (.bool true)], args := [d] }
  | _ => none }
def flagsTurnedRow : OpenClaim := { program := "ytbgjoiccehiglaa", sum := "16756e19f463cbf294817e19975230a7500c74e94bd2222893cb5b624b4c3d14", func := "bonsai/bonsailaw07.FlagsTurned", spec := "flagsTurned", inPlace := ["internal/abi.NoEscape"], unfollowed := true, recurses := true, apart := false }
def FlagsTurnedSaid : Prop := flagsTurnedRow.holds Try.pinned (OpenSpec.ofChange flagsTurnedSpec)

/-- ITS FALSE NEIGHBOUR: 'it returns false'. Refute it at one input. -/
def flagsTurnedWrong : ChangeSpec := { name := "flagsTurned", fn := fun _ => fun
  | [d] => { results := [.lit (.bool false)], args := [d] }
  | _ => none }
def FlagsTurnedWrongFalsely : Prop := flagsTurnedRow.holds Try.pinned (OpenSpec.ofChange flagsTurnedWrong)

/-- 'bonsailaw07.FlagsCounts': WHATEVER THE INPUT: true; the input reads as it did. -/
def flagsCountsSpec : ChangeSpec := { name := "flagsCounts", fn := fun _ => fun
  | [d] => { results := [.lit (.bool true)], args := [d] }
  | _ => none }
def flagsCountsRow : OpenClaim := { program := "ytbgjoiccehiglaa", sum := "16756e19f463cbf294817e19975230a7500c74e94bd2222893cb5b624b4c3d14", func := "bonsai/bonsailaw07.FlagsCounts", spec := "flagsCounts", inPlace := ["internal/abi.NoEscape"], unfollowed := true, recurses := true, apart := false }
def FlagsCountsSaid : Prop := flagsCountsRow.holds Try.pinned (OpenSpec.ofChange flagsCountsSpec)

/-- ITS FALSE NEIGHBOUR: 'it returns false'. Refute it at one input. -/
def flagsCountsWrong : ChangeSpec := { name := "flagsCounts", fn := fun _ => fun
  | [d] => { results := [.lit (.bool false)], args := [d] }
  | _ => none }
def FlagsCountsWrongFalsely : Prop := flagsCountsRow.holds Try.pinned (OpenSpec.ofChange flagsCountsWrong)

/-- 'bonsailaw08.DictTells': WHATEVER THE INPUT: true; the input reads as it did. -/
def dictTellsSpec : ChangeSpec := { name := "dictTells", fn := fun _ => fun
  | [d1, d2, d3] => { results := [.lit (.bool true)], args := [d1, d2, d3] }
  | _ => none }
def dictTellsRow : OpenClaim := { program := "ytbgjoiccehiglaa", sum := "16756e19f463cbf294817e19975230a7500c74e94bd2222893cb5b624b4c3d14", func := "bonsai/bonsailaw08.DictTells", spec := "dictTells", inPlace := ["internal/abi.NoEscape"], unfollowed := true, recurses := true, apart := false }
def DictTellsSaid : Prop := dictTellsRow.holds Try.pinned (OpenSpec.ofChange dictTellsSpec)

/-- ITS FALSE NEIGHBOUR: 'it returns false'. Refute it at one input. -/
def dictTellsWrong : ChangeSpec := { name := "dictTells", fn := fun _ => fun
  | [d1, d2, d3] => { results := [.lit (.bool false)], args := [d1, d2, d3] }
  | _ => none }
def DictTellsWrongFalsely : Prop := dictTellsRow.holds Try.pinned (OpenSpec.ofChange dictTellsWrong)

/-- 'bonsailaw08.DictReads': WHATEVER THE INPUT: true; the input reads as it did. -/
def dictReadsSpec : ChangeSpec := { name := "dictReads", fn := fun _ => fun
  | [d1, d2, d3] => { results := [.lit (.bool true)], args := [d1, d2, d3] }
  | _ => none }
def dictReadsRow : OpenClaim := { program := "ytbgjoiccehiglaa", sum := "16756e19f463cbf294817e19975230a7500c74e94bd2222893cb5b624b4c3d14", func := "bonsai/bonsailaw08.DictReads", spec := "dictReads", inPlace := ["internal/abi.NoEscape"], unfollowed := true, recurses := true, apart := false }
def DictReadsSaid : Prop := dictReadsRow.holds Try.pinned (OpenSpec.ofChange dictReadsSpec)

/-- ITS FALSE NEIGHBOUR: 'it returns false'. Refute it at one input. -/
def dictReadsWrong : ChangeSpec := { name := "dictReads", fn := fun _ => fun
  | [d1, d2, d3] => { results := [.lit (.bool false)], args := [d1, d2, d3] }
  | _ => none }
def DictReadsWrongFalsely : Prop := dictReadsRow.holds Try.pinned (OpenSpec.ofChange dictReadsWrong)

/-- 'bonsailaw08.DictBack': WHATEVER THE INPUT: true; the input reads as it did. -/
def dictBackSpec : ChangeSpec := { name := "dictBack", fn := fun _ => fun
  | [d1, d2, d3] => { results := [.lit (.bool true)], args := [d1, d2, d3] }
  | _ => none }
def dictBackRow : OpenClaim := { program := "ytbgjoiccehiglaa", sum := "16756e19f463cbf294817e19975230a7500c74e94bd2222893cb5b624b4c3d14", func := "bonsai/bonsailaw08.DictBack", spec := "dictBack", inPlace := ["internal/abi.NoEscape"], unfollowed := true, recurses := true, apart := false }
def DictBackSaid : Prop := dictBackRow.holds Try.pinned (OpenSpec.ofChange dictBackSpec)

/-- ITS FALSE NEIGHBOUR: 'it returns false'. Refute it at one input. -/
def dictBackWrong : ChangeSpec := { name := "dictBack", fn := fun _ => fun
  | [d1, d2, d3] => { results := [.lit (.bool false)], args := [d1, d2, d3] }
  | _ => none }
def DictBackWrongFalsely : Prop := dictBackRow.holds Try.pinned (OpenSpec.ofChange dictBackWrong)

/-- 'bonsailaw08.DictWords': WHATEVER THE INPUT: true; the input reads as it did. -/
def dictWordsSpec : ChangeSpec := { name := "dictWords", fn := fun _ => fun
  | [d] => { results := [.lit (.bool true)], args := [d] }
  | _ => none }
def dictWordsRow : OpenClaim := { program := "ytbgjoiccehiglaa", sum := "16756e19f463cbf294817e19975230a7500c74e94bd2222893cb5b624b4c3d14", func := "bonsai/bonsailaw08.DictWords", spec := "dictWords", inPlace := ["internal/abi.NoEscape"], unfollowed := true, recurses := true, apart := false }
def DictWordsSaid : Prop := dictWordsRow.holds Try.pinned (OpenSpec.ofChange dictWordsSpec)

/-- ITS FALSE NEIGHBOUR: 'it returns false'. Refute it at one input. -/
def dictWordsWrong : ChangeSpec := { name := "dictWords", fn := fun _ => fun
  | [d] => { results := [.lit (.bool false)], args := [d] }
  | _ => none }
def DictWordsWrongFalsely : Prop := dictWordsRow.holds Try.pinned (OpenSpec.ofChange dictWordsWrong)

/-- 'bonsailaw08.DictJoins': WHATEVER THE INPUT: true; the input reads as it did. -/
def dictJoinsSpec : ChangeSpec := { name := "dictJoins", fn := fun _ => fun
  | [d1, d2] => { results := [.lit (.bool true)], args := [d1, d2] }
  | _ => none }
def dictJoinsRow : OpenClaim := { program := "ytbgjoiccehiglaa", sum := "16756e19f463cbf294817e19975230a7500c74e94bd2222893cb5b624b4c3d14", func := "bonsai/bonsailaw08.DictJoins", spec := "dictJoins", inPlace := ["internal/abi.NoEscape"], unfollowed := true, recurses := true, apart := false }
def DictJoinsSaid : Prop := dictJoinsRow.holds Try.pinned (OpenSpec.ofChange dictJoinsSpec)

/-- ITS FALSE NEIGHBOUR: 'it returns false'. Refute it at one input. -/
def dictJoinsWrong : ChangeSpec := { name := "dictJoins", fn := fun _ => fun
  | [d1, d2] => { results := [.lit (.bool false)], args := [d1, d2] }
  | _ => none }
def DictJoinsWrongFalsely : Prop := dictJoinsRow.holds Try.pinned (OpenSpec.ofChange dictJoinsWrong)

/- THE SECOND FORM. 'bulk': how many values and letters a reading holds, each counted each time it is reached (what is shared counts as often as it is met; a slice's spare places count too). A statement '..UptoSaid' is the law's where the arguments, and the package variables that the reading takes, are together of bulk at most 1048576: NARROWER than '..Said'. Prove '..Said' where nothing that the law and all that it calls make is longer than what came in: it says more and counts as full. Else prove '..UptoSaid'. A law counts once. -/
mutual
def uptoBulk {H : Type} : DataW H → Nat
  | .lit (.string bytes) => bytes.length + 1
  | .lit _ => 1
  | .nil => 1
  | .ptr d => uptoBulk d + 1
  | .slice elems spare => uptoBulkAll elems + uptoBulkAll spare + 1
  | .agg parts => uptoBulkAll parts + 1
  | .iface _ d => uptoBulk d + 1
  | .map entries => uptoBulkEntries entries + 1
  | .held _ => 1
def uptoBulkAll {H : Type} : List (DataW H) → Nat
  | [] => 0
  | d :: r => uptoBulk d + uptoBulkAll r
def uptoBulkEntries {H : Type} : List (Lit × DataW H) → Nat
  | [] => 0
  | x :: r => uptoBulkEntry x + uptoBulkEntries r
def uptoBulkEntry {H : Type} : Lit × DataW H → Nat
  | (.string bytes, d) => bytes.length + uptoBulk d + 1
  | (_, d) => uptoBulk d + 1
 end
def uptoSmall : (H : Type) → List (DataW H) → Bool := fun _ ds => decide (uptoBulkAll ds ≤ 1048576)
def OpenSpec.upto (s : _root_.Go.ChangeSpec) : _root_.Go.OpenSpec := { _root_.Go.OpenSpec.ofChange s with cond := some uptoSmall }

/-- 'bonsailaw04.WordTells', WHERE WHAT IT READS IS OF BULK AT MOST 1048576: true; the input reads as it did. -/
def wordTellsUptoRow : OpenClaim := { program := "ytbgjoiccehiglaa", sum := "16756e19f463cbf294817e19975230a7500c74e94bd2222893cb5b624b4c3d14", func := "bonsai/bonsailaw04.WordTells", spec := "wordTells", unfollowed := true, recurses := true, apart := false, narrowed := true }
def WordTellsUptoSaid : Prop := wordTellsUptoRow.holds Try.pinned (OpenSpec.upto wordTellsSpec)

/-- 'bonsailaw04.WordTakes', WHERE WHAT IT READS IS OF BULK AT MOST 1048576: true; the input reads as it did. -/
def wordTakesUptoRow : OpenClaim := { program := "ytbgjoiccehiglaa", sum := "16756e19f463cbf294817e19975230a7500c74e94bd2222893cb5b624b4c3d14", func := "bonsai/bonsailaw04.WordTakes", spec := "wordTakes", unfollowed := true, recurses := true, apart := false, narrowed := true }
def WordTakesUptoSaid : Prop := wordTakesUptoRow.holds Try.pinned (OpenSpec.upto wordTakesSpec)

/-- 'bonsailaw04.WordRunes', WHERE WHAT IT READS IS OF BULK AT MOST 1048576: true; the input reads as it did. -/
def wordRunesUptoRow : OpenClaim := { program := "ytbgjoiccehiglaa", sum := "16756e19f463cbf294817e19975230a7500c74e94bd2222893cb5b624b4c3d14", func := "bonsai/bonsailaw04.WordRunes", spec := "wordRunes", unfollowed := true, recurses := true, apart := false, narrowed := true }
def WordRunesUptoSaid : Prop := wordRunesUptoRow.holds Try.pinned (OpenSpec.upto wordRunesSpec)

/-- 'bonsailaw04.WordParts', WHERE WHAT IT READS IS OF BULK AT MOST 1048576: true; the input reads as it did. -/
def wordPartsUptoRow : OpenClaim := { program := "ytbgjoiccehiglaa", sum := "16756e19f463cbf294817e19975230a7500c74e94bd2222893cb5b624b4c3d14", func := "bonsai/bonsailaw04.WordParts", spec := "wordParts", unfollowed := true, recurses := true, apart := false, narrowed := true }
def WordPartsUptoSaid : Prop := wordPartsUptoRow.holds Try.pinned (OpenSpec.upto wordPartsSpec)

/-- 'bonsailaw04.WordBack', WHERE WHAT IT READS IS OF BULK AT MOST 1048576: true; the input reads as it did. -/
def wordBackUptoRow : OpenClaim := { program := "ytbgjoiccehiglaa", sum := "16756e19f463cbf294817e19975230a7500c74e94bd2222893cb5b624b4c3d14", func := "bonsai/bonsailaw04.WordBack", spec := "wordBack", unfollowed := true, recurses := true, apart := false, narrowed := true }
def WordBackUptoSaid : Prop := wordBackUptoRow.holds Try.pinned (OpenSpec.upto wordBackSpec)

/-- 'bonsailaw04.WordCuts', WHERE WHAT IT READS IS OF BULK AT MOST 1048576: true; the input reads as it did. -/
def wordCutsUptoRow : OpenClaim := { program := "ytbgjoiccehiglaa", sum := "16756e19f463cbf294817e19975230a7500c74e94bd2222893cb5b624b4c3d14", func := "bonsai/bonsailaw04.WordCuts", spec := "wordCuts", unfollowed := true, recurses := true, apart := false, narrowed := true }
def WordCutsUptoSaid : Prop := wordCutsUptoRow.holds Try.pinned (OpenSpec.upto wordCutsSpec)

/-- 'bonsailaw06.RunsTells', WHERE WHAT IT READS IS OF BULK AT MOST 1048576: true; the input reads as it did. -/
def runsTellsUptoRow : OpenClaim := { program := "ytbgjoiccehiglaa", sum := "16756e19f463cbf294817e19975230a7500c74e94bd2222893cb5b624b4c3d14", func := "bonsai/bonsailaw06.RunsTells", spec := "runsTells", inPlace := ["internal/abi.NoEscape"], unfollowed := true, recurses := true, apart := false, narrowed := true }
def RunsTellsUptoSaid : Prop := runsTellsUptoRow.holds Try.pinned (OpenSpec.upto runsTellsSpec)

/-- 'bonsailaw06.RunsReads', WHERE WHAT IT READS IS OF BULK AT MOST 1048576: true; the input reads as it did. -/
def runsReadsUptoRow : OpenClaim := { program := "ytbgjoiccehiglaa", sum := "16756e19f463cbf294817e19975230a7500c74e94bd2222893cb5b624b4c3d14", func := "bonsai/bonsailaw06.RunsReads", spec := "runsReads", inPlace := ["internal/abi.NoEscape"], unfollowed := true, recurses := true, apart := false, narrowed := true }
def RunsReadsUptoSaid : Prop := runsReadsUptoRow.holds Try.pinned (OpenSpec.upto runsReadsSpec)

/-- 'bonsailaw06.RunsBack', WHERE WHAT IT READS IS OF BULK AT MOST 1048576: true; the input reads as it did. -/
def runsBackUptoRow : OpenClaim := { program := "ytbgjoiccehiglaa", sum := "16756e19f463cbf294817e19975230a7500c74e94bd2222893cb5b624b4c3d14", func := "bonsai/bonsailaw06.RunsBack", spec := "runsBack", inPlace := ["internal/abi.NoEscape"], unfollowed := true, recurses := true, apart := false, narrowed := true }
def RunsBackUptoSaid : Prop := runsBackUptoRow.holds Try.pinned (OpenSpec.upto runsBackSpec)

/-- 'bonsailaw06.RunsFew', WHERE WHAT IT READS IS OF BULK AT MOST 1048576: true; the input reads as it did. -/
def runsFewUptoRow : OpenClaim := { program := "ytbgjoiccehiglaa", sum := "16756e19f463cbf294817e19975230a7500c74e94bd2222893cb5b624b4c3d14", func := "bonsai/bonsailaw06.RunsFew", spec := "runsFew", inPlace := ["internal/abi.NoEscape"], unfollowed := true, recurses := true, apart := false, narrowed := true }
def RunsFewUptoSaid : Prop := runsFewUptoRow.holds Try.pinned (OpenSpec.upto runsFewSpec)

/-- 'bonsailaw06.RunsJoins', WHERE WHAT IT READS IS OF BULK AT MOST 1048576: true; the input reads as it did. -/
def runsJoinsUptoRow : OpenClaim := { program := "ytbgjoiccehiglaa", sum := "16756e19f463cbf294817e19975230a7500c74e94bd2222893cb5b624b4c3d14", func := "bonsai/bonsailaw06.RunsJoins", spec := "runsJoins", inPlace := ["internal/abi.NoEscape"], unfollowed := true, recurses := true, apart := false, narrowed := true }
def RunsJoinsUptoSaid : Prop := runsJoinsUptoRow.holds Try.pinned (OpenSpec.upto runsJoinsSpec)

/-- 'bonsailaw07.FlagsTells', WHERE WHAT IT READS IS OF BULK AT MOST 1048576: true; the input reads as it did. -/
def flagsTellsUptoRow : OpenClaim := { program := "ytbgjoiccehiglaa", sum := "16756e19f463cbf294817e19975230a7500c74e94bd2222893cb5b624b4c3d14", func := "bonsai/bonsailaw07.FlagsTells", spec := "flagsTells", inPlace := ["internal/abi.NoEscape"], unfollowed := true, recurses := true, apart := false, narrowed := true }
def FlagsTellsUptoSaid : Prop := flagsTellsUptoRow.holds Try.pinned (OpenSpec.upto flagsTellsSpec)

/-- 'bonsailaw07.FlagsReads', WHERE WHAT IT READS IS OF BULK AT MOST 1048576: true; the input reads as it did. -/
def flagsReadsUptoRow : OpenClaim := { program := "ytbgjoiccehiglaa", sum := "16756e19f463cbf294817e19975230a7500c74e94bd2222893cb5b624b4c3d14", func := "bonsai/bonsailaw07.FlagsReads", spec := "flagsReads", inPlace := ["internal/abi.NoEscape"], unfollowed := true, recurses := true, apart := false, narrowed := true }
def FlagsReadsUptoSaid : Prop := flagsReadsUptoRow.holds Try.pinned (OpenSpec.upto flagsReadsSpec)

/-- 'bonsailaw07.FlagsBack', WHERE WHAT IT READS IS OF BULK AT MOST 1048576: true; the input reads as it did. -/
def flagsBackUptoRow : OpenClaim := { program := "ytbgjoiccehiglaa", sum := "16756e19f463cbf294817e19975230a7500c74e94bd2222893cb5b624b4c3d14", func := "bonsai/bonsailaw07.FlagsBack", spec := "flagsBack", inPlace := ["internal/abi.NoEscape"], unfollowed := true, recurses := true, apart := false, narrowed := true }
def FlagsBackUptoSaid : Prop := flagsBackUptoRow.holds Try.pinned (OpenSpec.upto flagsBackSpec)

/-- 'bonsailaw07.FlagsTurned', WHERE WHAT IT READS IS OF BULK AT MOST 1048576: true; the input reads as it did. -/
def flagsTurnedUptoRow : OpenClaim := { program := "ytbgjoiccehiglaa", sum := "16756e19f463cbf294817e19975230a7500c74e94bd2222893cb5b624b4c3d14", func := "bonsai/bonsailaw07.FlagsTurned", spec := "flagsTurned", inPlace := ["internal/abi.NoEscape"], unfollowed := true, recurses := true, apart := false, narrowed := true }
def FlagsTurnedUptoSaid : Prop := flagsTurnedUptoRow.holds Try.pinned (OpenSpec.upto flagsTurnedSpec)

/-- 'bonsailaw07.FlagsCounts', WHERE WHAT IT READS IS OF BULK AT MOST 1048576: true; the input reads as it did. -/
def flagsCountsUptoRow : OpenClaim := { program := "ytbgjoiccehiglaa", sum := "16756e19f463cbf294817e19975230a7500c74e94bd2222893cb5b624b4c3d14", func := "bonsai/bonsailaw07.FlagsCounts", spec := "flagsCounts", inPlace := ["internal/abi.NoEscape"], unfollowed := true, recurses := true, apart := false, narrowed := true }
def FlagsCountsUptoSaid : Prop := flagsCountsUptoRow.holds Try.pinned (OpenSpec.upto flagsCountsSpec)

/-- 'bonsailaw08.DictTells', WHERE WHAT IT READS IS OF BULK AT MOST 1048576: true; the input reads as it did. -/
def dictTellsUptoRow : OpenClaim := { program := "ytbgjoiccehiglaa", sum := "16756e19f463cbf294817e19975230a7500c74e94bd2222893cb5b624b4c3d14", func := "bonsai/bonsailaw08.DictTells", spec := "dictTells", inPlace := ["internal/abi.NoEscape"], unfollowed := true, recurses := true, apart := false, narrowed := true }
def DictTellsUptoSaid : Prop := dictTellsUptoRow.holds Try.pinned (OpenSpec.upto dictTellsSpec)

/-- 'bonsailaw08.DictReads', WHERE WHAT IT READS IS OF BULK AT MOST 1048576: true; the input reads as it did. -/
def dictReadsUptoRow : OpenClaim := { program := "ytbgjoiccehiglaa", sum := "16756e19f463cbf294817e19975230a7500c74e94bd2222893cb5b624b4c3d14", func := "bonsai/bonsailaw08.DictReads", spec := "dictReads", inPlace := ["internal/abi.NoEscape"], unfollowed := true, recurses := true, apart := false, narrowed := true }
def DictReadsUptoSaid : Prop := dictReadsUptoRow.holds Try.pinned (OpenSpec.upto dictReadsSpec)

/-- 'bonsailaw08.DictBack', WHERE WHAT IT READS IS OF BULK AT MOST 1048576: true; the input reads as it did. -/
def dictBackUptoRow : OpenClaim := { program := "ytbgjoiccehiglaa", sum := "16756e19f463cbf294817e19975230a7500c74e94bd2222893cb5b624b4c3d14", func := "bonsai/bonsailaw08.DictBack", spec := "dictBack", inPlace := ["internal/abi.NoEscape"], unfollowed := true, recurses := true, apart := false, narrowed := true }
def DictBackUptoSaid : Prop := dictBackUptoRow.holds Try.pinned (OpenSpec.upto dictBackSpec)

/-- 'bonsailaw08.DictWords', WHERE WHAT IT READS IS OF BULK AT MOST 1048576: true; the input reads as it did. -/
def dictWordsUptoRow : OpenClaim := { program := "ytbgjoiccehiglaa", sum := "16756e19f463cbf294817e19975230a7500c74e94bd2222893cb5b624b4c3d14", func := "bonsai/bonsailaw08.DictWords", spec := "dictWords", inPlace := ["internal/abi.NoEscape"], unfollowed := true, recurses := true, apart := false, narrowed := true }
def DictWordsUptoSaid : Prop := dictWordsUptoRow.holds Try.pinned (OpenSpec.upto dictWordsSpec)

/-- 'bonsailaw08.DictJoins', WHERE WHAT IT READS IS OF BULK AT MOST 1048576: true; the input reads as it did. -/
def dictJoinsUptoRow : OpenClaim := { program := "ytbgjoiccehiglaa", sum := "16756e19f463cbf294817e19975230a7500c74e94bd2222893cb5b624b4c3d14", func := "bonsai/bonsailaw08.DictJoins", spec := "dictJoins", inPlace := ["internal/abi.NoEscape"], unfollowed := true, recurses := true, apart := false, narrowed := true }
def DictJoinsUptoSaid : Prop := dictJoinsUptoRow.holds Try.pinned (OpenSpec.upto dictJoinsSpec)

end Rows
end Go.Proofs.Ytbgjoiccehiglaa
