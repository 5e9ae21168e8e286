/- Part 4 of what RowsSizes, RowsBack stands on: merged by a program of this session out of its texts. -/
import Derived.Test.YtfgnjndfnijjoaaCSRowsSizes3
section
namespace Go.Proofs.Ytfgnjndfnijjoaa.Print
open Go.RowKit Go.Proofs.YtfgnjndfnijjoaaW.PrintWords Go.Proofs.YtfgnjndfnijjoaaW.PrintLast Go.Proofs.YtfgnjndfnijjoaaW.PrintMore
attribute [local go_sem] max2_int min2_int max_two min_two max_three min_three max_four min_four
attribute [local go_sem] run_store_float
set_option linter.unusedVariables false
set_option linter.unusedSimpArgs false
def bonsailaw21_live.f (k : Nat)  : Option (Bool) := (some (([(⟨(⟨5, 2⟩ : S27), 0, 300, (⟨#[97]⟩ : ByteArray), (4607182418800017408 : Int)⟩ : S30)] : List (S30)) : List (S30))).bind fun y190 => ((rows_Encode.f k y190).bind fun bt193 => ((rows_Decode.f k bt193.1).bind fun bt195 => ((rows_Decode.f k (⟨#[66, 78, 83, 73, 2, 0]⟩ : ByteArray)).bind fun bt199 => (if bt193.1.size + 1 ≤ 9223372036854775807 then ((rows_Decode.f k (bt193.1 ++ (⟨#[120]⟩ : ByteArray))).bind fun bt203 => ((rows_Encode.f k (([(⟨(⟨0, 0⟩ : S27), 0, 0, (⟨#[]⟩ : ByteArray), (0 : Int)⟩ : S30)] : List (S30)))).bind fun bt210 => (if 0 < (y190.length : Int) then ((rows_One.f k ((rd_T30 y190 0).f0.f0) ((rd_T30 y190 0).f0.f1) ((rd_T30 y190 0).f1) ((rd_T30 y190 0).f2) ((rd_T30 y190 0).f3) ((rd_T30 y190 0).f4)).bind fun t213 => (if 6 + t213.size ≤ 9223372036854775807 then ((rows_One.f k ((rd_T30 y190 0).f0.f0) ((rd_T30 y190 0).f0.f1) ((rd_T30 y190 0).f1) ((rd_T30 y190 0).f2) ((rd_T30 y190 0).f3) ((rd_T30 y190 0).f4)).bind fun t215 => (if ((⟨#[66, 78, 83, 73, 1, 2]⟩ : ByteArray) ++ t213).size + t215.size ≤ 9223372036854775807 then ((rows_Decode.f k (((⟨#[66, 78, 83, 73, 1, 2]⟩ : ByteArray) ++ t213) ++ t215)).bind fun bt216 => ((rows_Decode.f k (⟨#[66, 78, 83, 73, 1, 0]⟩ : ByteArray)).bind fun bt220 => ((rows_Decode.f k (⟨#[66, 78, 83, 88]⟩ : ByteArray)).bind fun bt224 => (if bt193.2 = 0 then (if bt193.1.toList = ([66, 78, 83, 73, 1, 1, 5, 2, 0, 172, 2, 1, 97, 0, 0, 0, 0, 0, 0, 240, 63] : List UInt8) then (if bt195.2 = 0 then ((bonsairef13_Same.f k bt195.1 y190).bind fun t228 => (if t228 = true then (if bt199.2 = 8 then (if bt203.2 = 5 then (if bt210.2 = 1 then (if bt216.2 = 12 then (if (bt220.1.length : Int) = 0 then (if bt220.2 = 0 then (some (bt224.2 == 7)) else (none)) else (none)) else (none)) else (none)) else (none)) else (none)) else (none))) else (none)) else (none)) else (none))))) else (none))) else (none))) else (none)))) else (none)))))
theorem bonsailaw21_live.mono : ∀ k, LeO (bonsailaw21_live.f k ) (bonsailaw21_live.f (k + 1) ) := by
  intro  k
  unfold bonsailaw21_live.f
  repeat' first
      | (with_reducible exact bonsairef13_Same.mono _ _ _)
      | (with_reducible exact rows_Decode.mono _ _)
      | (with_reducible exact rows_Encode.mono _ _)
      | (with_reducible exact rows_One.mono _ _ _ _ _ _ _)
      | (with_reducible exact LeO.refl _)
      | (with_reducible exact LeO.none _)
      | (with_reducible refine LeO.ite ?_ ?_)
      | (with_reducible refine LeO.bind ?_ (fun _ => ?_))
      | exact bonsairef13_Same.mono _ _ _
      | exact rows_Decode.mono _ _
      | exact rows_Encode.mono _ _
      | exact rows_One.mono _ _ _ _ _ _ _
      | exact LeO.none _
      | refine LeO.ite ?_ ?_
      | refine LeO.bind ?_ (fun _ => ?_)
def bonsailaw21_live.T7 : Bool × List (List Nat × List Nat) := (true, [([], []), ([0], [0]), ([1], [1]), ([2], [2]), ([3], [3]), ([], []), ([5], [5]), ([6], [6]), ([7, 3], [7]), ([4, 8], [4, 8]), ([9, 8], [9]), ([10], [10]), ([11], [11]), ([11], [11]), ([12, 10, 0, 1, 2, 3, 4, 5, 6, 7, 8, 9, 10, 11, 12], [12]), ([13, 14, 0, 1, 2, 3, 4, 5, 6, 7, 8, 9, 10, 11, 12, 13, 14], [13])])
def bonsailaw21_live.B7 : List Nat := [0, 1, 3, 7, 15, 0, 32, 96, 239, 511, 1023, 2047, 4095, 4095, 8191, 32767]
theorem bonsailaw21_live.tab7 : rtab .any (opsOf Try.f8 7) = bonsailaw21_live.T7 := by kernel_rfl
theorem bonsailaw21_live.bits7 : waitsOk bonsailaw21_live.T7.2 bonsailaw21_live.B7 = true := by kernel_rfl
set_option maxHeartbeats 8000000 in
set_option maxRecDepth 100000 in
theorem bonsailaw21_live.calls (k : Nat)  (r : Bool) (w : World) (h : bonsailaw21_live.f k  = some r) :
    Calls Try.prog 8 #[] w fun e w' => e = .returned (.bool r) ∧ Below w.heap.size w w' := by
  have hu27 := Try.underlying27
  have hu30 := Try.underlying30
  have HB := Aside0.mk (Below.refl w.heap.size w)
  have H : ((some (([(⟨(⟨5, 2⟩ : S27), 0, 300, (⟨#[97]⟩ : ByteArray), (4607182418800017408 : Int)⟩ : S30)] : List (S30)) : List (S30))).bind fun y190 => ((rows_Encode.f k y190).bind fun bt193 => ((rows_Decode.f k bt193.1).bind fun bt195 => ((rows_Decode.f k (⟨#[66, 78, 83, 73, 2, 0]⟩ : ByteArray)).bind fun bt199 => (if bt193.1.size + 1 ≤ 9223372036854775807 then ((rows_Decode.f k (bt193.1 ++ (⟨#[120]⟩ : ByteArray))).bind fun bt203 => ((rows_Encode.f k (([(⟨(⟨0, 0⟩ : S27), 0, 0, (⟨#[]⟩ : ByteArray), (0 : Int)⟩ : S30)] : List (S30)))).bind fun bt210 => (if 0 < (y190.length : Int) then ((rows_One.f k ((rd_T30 y190 0).f0.f0) ((rd_T30 y190 0).f0.f1) ((rd_T30 y190 0).f1) ((rd_T30 y190 0).f2) ((rd_T30 y190 0).f3) ((rd_T30 y190 0).f4)).bind fun t213 => (if 6 + t213.size ≤ 9223372036854775807 then ((rows_One.f k ((rd_T30 y190 0).f0.f0) ((rd_T30 y190 0).f0.f1) ((rd_T30 y190 0).f1) ((rd_T30 y190 0).f2) ((rd_T30 y190 0).f3) ((rd_T30 y190 0).f4)).bind fun t215 => (if ((⟨#[66, 78, 83, 73, 1, 2]⟩ : ByteArray) ++ t213).size + t215.size ≤ 9223372036854775807 then ((rows_Decode.f k (((⟨#[66, 78, 83, 73, 1, 2]⟩ : ByteArray) ++ t213) ++ t215)).bind fun bt216 => ((rows_Decode.f k (⟨#[66, 78, 83, 73, 1, 0]⟩ : ByteArray)).bind fun bt220 => ((rows_Decode.f k (⟨#[66, 78, 83, 88]⟩ : ByteArray)).bind fun bt224 => (if bt193.2 = 0 then (if bt193.1.toList = ([66, 78, 83, 73, 1, 1, 5, 2, 0, 172, 2, 1, 97, 0, 0, 0, 0, 0, 0, 240, 63] : List UInt8) then (if bt195.2 = 0 then ((bonsairef13_Same.f k bt195.1 y190).bind fun t228 => (if t228 = true then (if bt199.2 = 8 then (if bt203.2 = 5 then (if bt210.2 = 1 then (if bt216.2 = 12 then (if (bt220.1.length : Int) = 0 then (if bt220.2 = 0 then (some (bt224.2 == 7)) else (none)) else (none)) else (none)) else (none)) else (none)) else (none)) else (none))) else (none)) else (none)) else (none))))) else (none))) else (none))) else (none)))) else (none)))))) = some r := h
  clear h
  obtain ⟨y190, hy190⟩ : ∃ y_ : List (S30), y_ = (([(⟨(⟨5, 2⟩ : S27), 0, 300, (⟨#[97]⟩ : ByteArray), (4607182418800017408 : Int)⟩ : S30)] : List (S30))) := ⟨_, rfl⟩
  replace H : ((rows_Encode.f k y190).bind fun bt193 => ((rows_Decode.f k bt193.1).bind fun bt195 => ((rows_Decode.f k (⟨#[66, 78, 83, 73, 2, 0]⟩ : ByteArray)).bind fun bt199 => (if bt193.1.size + 1 ≤ 9223372036854775807 then ((rows_Decode.f k (bt193.1 ++ (⟨#[120]⟩ : ByteArray))).bind fun bt203 => ((rows_Encode.f k (([(⟨(⟨0, 0⟩ : S27), 0, 0, (⟨#[]⟩ : ByteArray), (0 : Int)⟩ : S30)] : List (S30)))).bind fun bt210 => (if 0 < (y190.length : Int) then ((rows_One.f k ((rd_T30 y190 0).f0.f0) ((rd_T30 y190 0).f0.f1) ((rd_T30 y190 0).f1) ((rd_T30 y190 0).f2) ((rd_T30 y190 0).f3) ((rd_T30 y190 0).f4)).bind fun t213 => (if 6 + t213.size ≤ 9223372036854775807 then ((rows_One.f k ((rd_T30 y190 0).f0.f0) ((rd_T30 y190 0).f0.f1) ((rd_T30 y190 0).f1) ((rd_T30 y190 0).f2) ((rd_T30 y190 0).f3) ((rd_T30 y190 0).f4)).bind fun t215 => (if ((⟨#[66, 78, 83, 73, 1, 2]⟩ : ByteArray) ++ t213).size + t215.size ≤ 9223372036854775807 then ((rows_Decode.f k (((⟨#[66, 78, 83, 73, 1, 2]⟩ : ByteArray) ++ t213) ++ t215)).bind fun bt216 => ((rows_Decode.f k (⟨#[66, 78, 83, 73, 1, 0]⟩ : ByteArray)).bind fun bt220 => ((rows_Decode.f k (⟨#[66, 78, 83, 88]⟩ : ByteArray)).bind fun bt224 => (if bt193.2 = 0 then (if bt193.1.toList = ([66, 78, 83, 73, 1, 1, 5, 2, 0, 172, 2, 1, 97, 0, 0, 0, 0, 0, 0, 240, 63] : List UInt8) then (if bt195.2 = 0 then ((bonsairef13_Same.f k bt195.1 y190).bind fun t228 => (if t228 = true then (if bt199.2 = 8 then (if bt203.2 = 5 then (if bt210.2 = 1 then (if bt216.2 = 12 then (if (bt220.1.length : Int) = 0 then (if bt220.2 = 0 then (some (bt224.2 == 7)) else (none)) else (none)) else (none)) else (none)) else (none)) else (none)) else (none))) else (none)) else (none)) else (none))))) else (none))) else (none))) else (none)))) else (none))))) = some r := by first | (rw [hy190]; with_reducible exact H) | (have H2_ := (Option.bind_some _ _).symm.trans H; rw [hy190]; with_reducible exact H2_) | (have H2_ := (Option.bind_some _ _).symm.trans H; with_reducible exact H2_) | with_reducible exact H | (rw [hy190]; exact H) | exact H
  have Ny190 := Aside0.mk hy190
  clear hy190
  replace H := Option.bind_eq_some_iff.mp H
  obtain ⟨⟨t193, t194⟩, A10, H⟩ := H
  replace H : ((rows_Decode.f k t193).bind fun bt195 => ((rows_Decode.f k (⟨#[66, 78, 83, 73, 2, 0]⟩ : ByteArray)).bind fun bt199 => (if t193.size + 1 ≤ 9223372036854775807 then ((rows_Decode.f k (t193 ++ (⟨#[120]⟩ : ByteArray))).bind fun bt203 => ((rows_Encode.f k (([(⟨(⟨0, 0⟩ : S27), 0, 0, (⟨#[]⟩ : ByteArray), (0 : Int)⟩ : S30)] : List (S30)))).bind fun bt210 => (if 0 < (y190.length : Int) then ((rows_One.f k ((rd_T30 y190 0).f0.f0) ((rd_T30 y190 0).f0.f1) ((rd_T30 y190 0).f1) ((rd_T30 y190 0).f2) ((rd_T30 y190 0).f3) ((rd_T30 y190 0).f4)).bind fun t213 => (if 6 + t213.size ≤ 9223372036854775807 then ((rows_One.f k ((rd_T30 y190 0).f0.f0) ((rd_T30 y190 0).f0.f1) ((rd_T30 y190 0).f1) ((rd_T30 y190 0).f2) ((rd_T30 y190 0).f3) ((rd_T30 y190 0).f4)).bind fun t215 => (if ((⟨#[66, 78, 83, 73, 1, 2]⟩ : ByteArray) ++ t213).size + t215.size ≤ 9223372036854775807 then ((rows_Decode.f k (((⟨#[66, 78, 83, 73, 1, 2]⟩ : ByteArray) ++ t213) ++ t215)).bind fun bt216 => ((rows_Decode.f k (⟨#[66, 78, 83, 73, 1, 0]⟩ : ByteArray)).bind fun bt220 => ((rows_Decode.f k (⟨#[66, 78, 83, 88]⟩ : ByteArray)).bind fun bt224 => (if t194 = 0 then (if t193.toList = ([66, 78, 83, 73, 1, 1, 5, 2, 0, 172, 2, 1, 97, 0, 0, 0, 0, 0, 0, 240, 63] : List UInt8) then (if bt195.2 = 0 then ((bonsairef13_Same.f k bt195.1 y190).bind fun t228 => (if t228 = true then (if bt199.2 = 8 then (if bt203.2 = 5 then (if bt210.2 = 1 then (if bt216.2 = 12 then (if (bt220.1.length : Int) = 0 then (if bt220.2 = 0 then (some (bt224.2 == 7)) else (none)) else (none)) else (none)) else (none)) else (none)) else (none)) else (none))) else (none)) else (none)) else (none))))) else (none))) else (none))) else (none)))) else (none)))) = some r := H
  have A1 := Aside0.mk A10
  clear A10
  replace H := Option.bind_eq_some_iff.mp H
  obtain ⟨⟨t195, t196⟩, A20, H⟩ := H
  replace H : ((rows_Decode.f k (⟨#[66, 78, 83, 73, 2, 0]⟩ : ByteArray)).bind fun bt199 => (if t193.size + 1 ≤ 9223372036854775807 then ((rows_Decode.f k (t193 ++ (⟨#[120]⟩ : ByteArray))).bind fun bt203 => ((rows_Encode.f k (([(⟨(⟨0, 0⟩ : S27), 0, 0, (⟨#[]⟩ : ByteArray), (0 : Int)⟩ : S30)] : List (S30)))).bind fun bt210 => (if 0 < (y190.length : Int) then ((rows_One.f k ((rd_T30 y190 0).f0.f0) ((rd_T30 y190 0).f0.f1) ((rd_T30 y190 0).f1) ((rd_T30 y190 0).f2) ((rd_T30 y190 0).f3) ((rd_T30 y190 0).f4)).bind fun t213 => (if 6 + t213.size ≤ 9223372036854775807 then ((rows_One.f k ((rd_T30 y190 0).f0.f0) ((rd_T30 y190 0).f0.f1) ((rd_T30 y190 0).f1) ((rd_T30 y190 0).f2) ((rd_T30 y190 0).f3) ((rd_T30 y190 0).f4)).bind fun t215 => (if ((⟨#[66, 78, 83, 73, 1, 2]⟩ : ByteArray) ++ t213).size + t215.size ≤ 9223372036854775807 then ((rows_Decode.f k (((⟨#[66, 78, 83, 73, 1, 2]⟩ : ByteArray) ++ t213) ++ t215)).bind fun bt216 => ((rows_Decode.f k (⟨#[66, 78, 83, 73, 1, 0]⟩ : ByteArray)).bind fun bt220 => ((rows_Decode.f k (⟨#[66, 78, 83, 88]⟩ : ByteArray)).bind fun bt224 => (if t194 = 0 then (if t193.toList = ([66, 78, 83, 73, 1, 1, 5, 2, 0, 172, 2, 1, 97, 0, 0, 0, 0, 0, 0, 240, 63] : List UInt8) then (if t196 = 0 then ((bonsairef13_Same.f k t195 y190).bind fun t228 => (if t228 = true then (if bt199.2 = 8 then (if bt203.2 = 5 then (if bt210.2 = 1 then (if bt216.2 = 12 then (if (bt220.1.length : Int) = 0 then (if bt220.2 = 0 then (some (bt224.2 == 7)) else (none)) else (none)) else (none)) else (none)) else (none)) else (none)) else (none))) else (none)) else (none)) else (none))))) else (none))) else (none))) else (none)))) else (none))) = some r := H
  have A2 := Aside0.mk A20
  clear A20
  replace H := Option.bind_eq_some_iff.mp H
  obtain ⟨⟨t199, t200⟩, A30, H⟩ := H
  replace H : (if t193.size + 1 ≤ 9223372036854775807 then ((rows_Decode.f k (t193 ++ (⟨#[120]⟩ : ByteArray))).bind fun bt203 => ((rows_Encode.f k (([(⟨(⟨0, 0⟩ : S27), 0, 0, (⟨#[]⟩ : ByteArray), (0 : Int)⟩ : S30)] : List (S30)))).bind fun bt210 => (if 0 < (y190.length : Int) then ((rows_One.f k ((rd_T30 y190 0).f0.f0) ((rd_T30 y190 0).f0.f1) ((rd_T30 y190 0).f1) ((rd_T30 y190 0).f2) ((rd_T30 y190 0).f3) ((rd_T30 y190 0).f4)).bind fun t213 => (if 6 + t213.size ≤ 9223372036854775807 then ((rows_One.f k ((rd_T30 y190 0).f0.f0) ((rd_T30 y190 0).f0.f1) ((rd_T30 y190 0).f1) ((rd_T30 y190 0).f2) ((rd_T30 y190 0).f3) ((rd_T30 y190 0).f4)).bind fun t215 => (if ((⟨#[66, 78, 83, 73, 1, 2]⟩ : ByteArray) ++ t213).size + t215.size ≤ 9223372036854775807 then ((rows_Decode.f k (((⟨#[66, 78, 83, 73, 1, 2]⟩ : ByteArray) ++ t213) ++ t215)).bind fun bt216 => ((rows_Decode.f k (⟨#[66, 78, 83, 73, 1, 0]⟩ : ByteArray)).bind fun bt220 => ((rows_Decode.f k (⟨#[66, 78, 83, 88]⟩ : ByteArray)).bind fun bt224 => (if t194 = 0 then (if t193.toList = ([66, 78, 83, 73, 1, 1, 5, 2, 0, 172, 2, 1, 97, 0, 0, 0, 0, 0, 0, 240, 63] : List UInt8) then (if t196 = 0 then ((bonsairef13_Same.f k t195 y190).bind fun t228 => (if t228 = true then (if t200 = 8 then (if bt203.2 = 5 then (if bt210.2 = 1 then (if bt216.2 = 12 then (if (bt220.1.length : Int) = 0 then (if bt220.2 = 0 then (some (bt224.2 == 7)) else (none)) else (none)) else (none)) else (none)) else (none)) else (none)) else (none))) else (none)) else (none)) else (none))))) else (none))) else (none))) else (none)))) else (none)) = some r := H
  have A3 := Aside0.mk A30
  clear A30
  by_cases c4 : t193.size + 1 ≤ 9223372036854775807
  · rw [if_pos c4] at H
    have c4b0 := eq_true c4
    have c4b1 : decide (t193.size + 1 ≤ 9223372036854775807) = true := decide_eq_true c4
    try have c4b2 : (9223372036854775807 < t193.size + 1) = False := eq_false (Nat.not_lt.2 c4)
    try (have c4b3 := c4b2; simp only [ByteArray.size_append] at c4b3)
    clear c4
    replace H := Option.bind_eq_some_iff.mp H
    obtain ⟨⟨t203, t204⟩, A50, H⟩ := H
    replace H : ((rows_Encode.f k (([(⟨(⟨0, 0⟩ : S27), 0, 0, (⟨#[]⟩ : ByteArray), (0 : Int)⟩ : S30)] : List (S30)))).bind fun bt210 => (if 0 < (y190.length : Int) then ((rows_One.f k ((rd_T30 y190 0).f0.f0) ((rd_T30 y190 0).f0.f1) ((rd_T30 y190 0).f1) ((rd_T30 y190 0).f2) ((rd_T30 y190 0).f3) ((rd_T30 y190 0).f4)).bind fun t213 => (if 6 + t213.size ≤ 9223372036854775807 then ((rows_One.f k ((rd_T30 y190 0).f0.f0) ((rd_T30 y190 0).f0.f1) ((rd_T30 y190 0).f1) ((rd_T30 y190 0).f2) ((rd_T30 y190 0).f3) ((rd_T30 y190 0).f4)).bind fun t215 => (if ((⟨#[66, 78, 83, 73, 1, 2]⟩ : ByteArray) ++ t213).size + t215.size ≤ 9223372036854775807 then ((rows_Decode.f k (((⟨#[66, 78, 83, 73, 1, 2]⟩ : ByteArray) ++ t213) ++ t215)).bind fun bt216 => ((rows_Decode.f k (⟨#[66, 78, 83, 73, 1, 0]⟩ : ByteArray)).bind fun bt220 => ((rows_Decode.f k (⟨#[66, 78, 83, 88]⟩ : ByteArray)).bind fun bt224 => (if t194 = 0 then (if t193.toList = ([66, 78, 83, 73, 1, 1, 5, 2, 0, 172, 2, 1, 97, 0, 0, 0, 0, 0, 0, 240, 63] : List UInt8) then (if t196 = 0 then ((bonsairef13_Same.f k t195 y190).bind fun t228 => (if t228 = true then (if t200 = 8 then (if t204 = 5 then (if bt210.2 = 1 then (if bt216.2 = 12 then (if (bt220.1.length : Int) = 0 then (if bt220.2 = 0 then (some (bt224.2 == 7)) else (none)) else (none)) else (none)) else (none)) else (none)) else (none)) else (none))) else (none)) else (none)) else (none))))) else (none))) else (none))) else (none))) = some r := H
    have A5 := Aside0.mk A50
    clear A50
    obtain ⟨y207, hy207⟩ : ∃ y_ : List (S30), y_ = (([(⟨(⟨0, 0⟩ : S27), 0, 0, (⟨#[]⟩ : ByteArray), (0 : Int)⟩ : S30)] : List (S30))) := ⟨_, rfl⟩
    replace H : ((rows_Encode.f k y207).bind fun bt210 => (if 0 < (y190.length : Int) then ((rows_One.f k ((rd_T30 y190 0).f0.f0) ((rd_T30 y190 0).f0.f1) ((rd_T30 y190 0).f1) ((rd_T30 y190 0).f2) ((rd_T30 y190 0).f3) ((rd_T30 y190 0).f4)).bind fun t213 => (if 6 + t213.size ≤ 9223372036854775807 then ((rows_One.f k ((rd_T30 y190 0).f0.f0) ((rd_T30 y190 0).f0.f1) ((rd_T30 y190 0).f1) ((rd_T30 y190 0).f2) ((rd_T30 y190 0).f3) ((rd_T30 y190 0).f4)).bind fun t215 => (if ((⟨#[66, 78, 83, 73, 1, 2]⟩ : ByteArray) ++ t213).size + t215.size ≤ 9223372036854775807 then ((rows_Decode.f k (((⟨#[66, 78, 83, 73, 1, 2]⟩ : ByteArray) ++ t213) ++ t215)).bind fun bt216 => ((rows_Decode.f k (⟨#[66, 78, 83, 73, 1, 0]⟩ : ByteArray)).bind fun bt220 => ((rows_Decode.f k (⟨#[66, 78, 83, 88]⟩ : ByteArray)).bind fun bt224 => (if t194 = 0 then (if t193.toList = ([66, 78, 83, 73, 1, 1, 5, 2, 0, 172, 2, 1, 97, 0, 0, 0, 0, 0, 0, 240, 63] : List UInt8) then (if t196 = 0 then ((bonsairef13_Same.f k t195 y190).bind fun t228 => (if t228 = true then (if t200 = 8 then (if t204 = 5 then (if bt210.2 = 1 then (if bt216.2 = 12 then (if (bt220.1.length : Int) = 0 then (if bt220.2 = 0 then (some (bt224.2 == 7)) else (none)) else (none)) else (none)) else (none)) else (none)) else (none)) else (none))) else (none)) else (none)) else (none))))) else (none))) else (none))) else (none))) = some r := by first | (rw [hy207]; with_reducible exact H) | (have H2_ := (Option.bind_some _ _).symm.trans H; rw [hy207]; with_reducible exact H2_) | (have H2_ := (Option.bind_some _ _).symm.trans H; with_reducible exact H2_) | with_reducible exact H | (rw [hy207]; exact H) | exact H
    have Ny207 := Aside0.mk hy207
    clear hy207
    replace H := Option.bind_eq_some_iff.mp H
    obtain ⟨⟨t210, t211⟩, A60, H⟩ := H
    replace H : (if 0 < (y190.length : Int) then ((rows_One.f k ((rd_T30 y190 0).f0.f0) ((rd_T30 y190 0).f0.f1) ((rd_T30 y190 0).f1) ((rd_T30 y190 0).f2) ((rd_T30 y190 0).f3) ((rd_T30 y190 0).f4)).bind fun t213 => (if 6 + t213.size ≤ 9223372036854775807 then ((rows_One.f k ((rd_T30 y190 0).f0.f0) ((rd_T30 y190 0).f0.f1) ((rd_T30 y190 0).f1) ((rd_T30 y190 0).f2) ((rd_T30 y190 0).f3) ((rd_T30 y190 0).f4)).bind fun t215 => (if ((⟨#[66, 78, 83, 73, 1, 2]⟩ : ByteArray) ++ t213).size + t215.size ≤ 9223372036854775807 then ((rows_Decode.f k (((⟨#[66, 78, 83, 73, 1, 2]⟩ : ByteArray) ++ t213) ++ t215)).bind fun bt216 => ((rows_Decode.f k (⟨#[66, 78, 83, 73, 1, 0]⟩ : ByteArray)).bind fun bt220 => ((rows_Decode.f k (⟨#[66, 78, 83, 88]⟩ : ByteArray)).bind fun bt224 => (if t194 = 0 then (if t193.toList = ([66, 78, 83, 73, 1, 1, 5, 2, 0, 172, 2, 1, 97, 0, 0, 0, 0, 0, 0, 240, 63] : List UInt8) then (if t196 = 0 then ((bonsairef13_Same.f k t195 y190).bind fun t228 => (if t228 = true then (if t200 = 8 then (if t204 = 5 then (if t211 = 1 then (if bt216.2 = 12 then (if (bt220.1.length : Int) = 0 then (if bt220.2 = 0 then (some (bt224.2 == 7)) else (none)) else (none)) else (none)) else (none)) else (none)) else (none)) else (none))) else (none)) else (none)) else (none))))) else (none))) else (none))) else (none)) = some r := H
    have A6 := Aside0.mk A60
    clear A60
    by_cases c7 : 0 < (y190.length : Int)
    · rw [if_pos c7] at H
      have c7b0 : decide (0 < (y190.length : Int)) = true := decide_eq_true c7
      have c7b1 : decide (0 < y190.length) = true := decide_eq_true (by omega)
      clear c7
      replace H := Option.bind_eq_some_iff.mp H
      obtain ⟨t213, A80, H⟩ := H
      replace H : (if 6 + t213.size ≤ 9223372036854775807 then ((rows_One.f k ((rd_T30 y190 0).f0.f0) ((rd_T30 y190 0).f0.f1) ((rd_T30 y190 0).f1) ((rd_T30 y190 0).f2) ((rd_T30 y190 0).f3) ((rd_T30 y190 0).f4)).bind fun t215 => (if ((⟨#[66, 78, 83, 73, 1, 2]⟩ : ByteArray) ++ t213).size + t215.size ≤ 9223372036854775807 then ((rows_Decode.f k (((⟨#[66, 78, 83, 73, 1, 2]⟩ : ByteArray) ++ t213) ++ t215)).bind fun bt216 => ((rows_Decode.f k (⟨#[66, 78, 83, 73, 1, 0]⟩ : ByteArray)).bind fun bt220 => ((rows_Decode.f k (⟨#[66, 78, 83, 88]⟩ : ByteArray)).bind fun bt224 => (if t194 = 0 then (if t193.toList = ([66, 78, 83, 73, 1, 1, 5, 2, 0, 172, 2, 1, 97, 0, 0, 0, 0, 0, 0, 240, 63] : List UInt8) then (if t196 = 0 then ((bonsairef13_Same.f k t195 y190).bind fun t228 => (if t228 = true then (if t200 = 8 then (if t204 = 5 then (if t211 = 1 then (if bt216.2 = 12 then (if (bt220.1.length : Int) = 0 then (if bt220.2 = 0 then (some (bt224.2 == 7)) else (none)) else (none)) else (none)) else (none)) else (none)) else (none)) else (none))) else (none)) else (none)) else (none))))) else (none))) else (none)) = some r := H
      have A8 := Aside0.mk A80
      clear A80
      by_cases c9 : 6 + t213.size ≤ 9223372036854775807
      · rw [if_pos c9] at H
        have c9b0 := eq_true c9
        have c9b1 : decide (6 + t213.size ≤ 9223372036854775807) = true := decide_eq_true c9
        try have c9b2 : (9223372036854775807 < 6 + t213.size) = False := eq_false (Nat.not_lt.2 c9)
        try (have c9b3 := c9b2; simp only [ByteArray.size_append] at c9b3)
        clear c9
        replace H := Option.bind_eq_some_iff.mp H
        obtain ⟨t215, A100, H⟩ := H
        replace H : (if ((⟨#[66, 78, 83, 73, 1, 2]⟩ : ByteArray) ++ t213).size + t215.size ≤ 9223372036854775807 then ((rows_Decode.f k (((⟨#[66, 78, 83, 73, 1, 2]⟩ : ByteArray) ++ t213) ++ t215)).bind fun bt216 => ((rows_Decode.f k (⟨#[66, 78, 83, 73, 1, 0]⟩ : ByteArray)).bind fun bt220 => ((rows_Decode.f k (⟨#[66, 78, 83, 88]⟩ : ByteArray)).bind fun bt224 => (if t194 = 0 then (if t193.toList = ([66, 78, 83, 73, 1, 1, 5, 2, 0, 172, 2, 1, 97, 0, 0, 0, 0, 0, 0, 240, 63] : List UInt8) then (if t196 = 0 then ((bonsairef13_Same.f k t195 y190).bind fun t228 => (if t228 = true then (if t200 = 8 then (if t204 = 5 then (if t211 = 1 then (if bt216.2 = 12 then (if (bt220.1.length : Int) = 0 then (if bt220.2 = 0 then (some (bt224.2 == 7)) else (none)) else (none)) else (none)) else (none)) else (none)) else (none)) else (none))) else (none)) else (none)) else (none))))) else (none)) = some r := H
        have A10 := Aside0.mk A100
        clear A100
        by_cases c11 : ((⟨#[66, 78, 83, 73, 1, 2]⟩ : ByteArray) ++ t213).size + t215.size ≤ 9223372036854775807
        · rw [if_pos c11] at H
          have c11b0 := eq_true c11
          have c11b1 : decide (((⟨#[66, 78, 83, 73, 1, 2]⟩ : ByteArray) ++ t213).size + t215.size ≤ 9223372036854775807) = true := decide_eq_true c11
          try have c11b2 : (9223372036854775807 < ((⟨#[66, 78, 83, 73, 1, 2]⟩ : ByteArray) ++ t213).size + t215.size) = False := eq_false (Nat.not_lt.2 c11)
          try (have c11b3 := c11b2; simp only [ByteArray.size_append] at c11b3)
          try rw [show (⟨#[66, 78, 83, 73, 1, 2]⟩ : ByteArray).size = 6 from rfl] at c11b3
          clear c11
          replace H := Option.bind_eq_some_iff.mp H
          obtain ⟨⟨t216, t217⟩, A120, H⟩ := H
          replace H : ((rows_Decode.f k (⟨#[66, 78, 83, 73, 1, 0]⟩ : ByteArray)).bind fun bt220 => ((rows_Decode.f k (⟨#[66, 78, 83, 88]⟩ : ByteArray)).bind fun bt224 => (if t194 = 0 then (if t193.toList = ([66, 78, 83, 73, 1, 1, 5, 2, 0, 172, 2, 1, 97, 0, 0, 0, 0, 0, 0, 240, 63] : List UInt8) then (if t196 = 0 then ((bonsairef13_Same.f k t195 y190).bind fun t228 => (if t228 = true then (if t200 = 8 then (if t204 = 5 then (if t211 = 1 then (if t217 = 12 then (if (bt220.1.length : Int) = 0 then (if bt220.2 = 0 then (some (bt224.2 == 7)) else (none)) else (none)) else (none)) else (none)) else (none)) else (none)) else (none))) else (none)) else (none)) else (none)))) = some r := H
          have A12 := Aside0.mk A120
          clear A120
          replace H := Option.bind_eq_some_iff.mp H
          obtain ⟨⟨t220, t221⟩, A130, H⟩ := H
          replace H : ((rows_Decode.f k (⟨#[66, 78, 83, 88]⟩ : ByteArray)).bind fun bt224 => (if t194 = 0 then (if t193.toList = ([66, 78, 83, 73, 1, 1, 5, 2, 0, 172, 2, 1, 97, 0, 0, 0, 0, 0, 0, 240, 63] : List UInt8) then (if t196 = 0 then ((bonsairef13_Same.f k t195 y190).bind fun t228 => (if t228 = true then (if t200 = 8 then (if t204 = 5 then (if t211 = 1 then (if t217 = 12 then (if (t220.length : Int) = 0 then (if t221 = 0 then (some (bt224.2 == 7)) else (none)) else (none)) else (none)) else (none)) else (none)) else (none)) else (none))) else (none)) else (none)) else (none))) = some r := H
          have A13 := Aside0.mk A130
          clear A130
          replace H := Option.bind_eq_some_iff.mp H
          obtain ⟨⟨t224, t225⟩, A140, H⟩ := H
          replace H : (if t194 = 0 then (if t193.toList = ([66, 78, 83, 73, 1, 1, 5, 2, 0, 172, 2, 1, 97, 0, 0, 0, 0, 0, 0, 240, 63] : List UInt8) then (if t196 = 0 then ((bonsairef13_Same.f k t195 y190).bind fun t228 => (if t228 = true then (if t200 = 8 then (if t204 = 5 then (if t211 = 1 then (if t217 = 12 then (if (t220.length : Int) = 0 then (if t221 = 0 then (some (t225 == 7)) else (none)) else (none)) else (none)) else (none)) else (none)) else (none)) else (none))) else (none)) else (none)) else (none)) = some r := H
          have A14 := Aside0.mk A140
          clear A140
          by_cases c15 : t194 = 0
          · rw [if_pos c15] at H
            have c15b0 : (t194 == 0) = true := beq_iff_eq.mpr c15
            have c15b1 : (t194 != 0) = false := bne_eq_false_iff_eq.mpr c15
            clear c15
            by_cases c16 : t193.toList = ([66, 78, 83, 73, 1, 1, 5, 2, 0, 172, 2, 1, 97, 0, 0, 0, 0, 0, 0, 240, 63] : List UInt8)
            · rw [if_pos c16] at H
              have c16b0 : (t193.toList == ([66, 78, 83, 73, 1, 1, 5, 2, 0, 172, 2, 1, 97, 0, 0, 0, 0, 0, 0, 240, 63] : List UInt8)) = true := beq_iff_eq.mpr c16
              have c16b1 : (t193.toList != ([66, 78, 83, 73, 1, 1, 5, 2, 0, 172, 2, 1, 97, 0, 0, 0, 0, 0, 0, 240, 63] : List UInt8)) = false := bne_eq_false_iff_eq.mpr c16
              clear c16
              by_cases c17 : t196 = 0
              · rw [if_pos c17] at H
                have c17b0 : (t196 == 0) = true := beq_iff_eq.mpr c17
                have c17b1 : (t196 != 0) = false := bne_eq_false_iff_eq.mpr c17
                clear c17
                replace H := Option.bind_eq_some_iff.mp H
                obtain ⟨t228, A180, H⟩ := H
                replace H : (if t228 = true then (if t200 = 8 then (if t204 = 5 then (if t211 = 1 then (if t217 = 12 then (if (t220.length : Int) = 0 then (if t221 = 0 then (some (t225 == 7)) else (none)) else (none)) else (none)) else (none)) else (none)) else (none)) else (none)) = some r := H
                have A18 := Aside0.mk A180
                clear A180
                by_cases c19 : t228 = true
                · subst c19
                  have H1 : (if t200 = 8 then (if t204 = 5 then (if t211 = 1 then (if t217 = 12 then (if (t220.length : Int) = 0 then (if t221 = 0 then (some (t225 == 7)) else (none)) else (none)) else (none)) else (none)) else (none)) else (none)) = some r := by rw [if_pos rfl] at H; exact H
                  clear H
                  have H := H1
                  clear H1
                  by_cases c20 : t200 = 8
                  · rw [if_pos c20] at H
                    have c20b0 : (t200 == 8) = true := beq_iff_eq.mpr c20
                    have c20b1 : (t200 != 8) = false := bne_eq_false_iff_eq.mpr c20
                    clear c20
                    by_cases c21 : t204 = 5
                    · rw [if_pos c21] at H
                      have c21b0 : (t204 == 5) = true := beq_iff_eq.mpr c21
                      have c21b1 : (t204 != 5) = false := bne_eq_false_iff_eq.mpr c21
                      clear c21
                      by_cases c22 : t211 = 1
                      · rw [if_pos c22] at H
                        have c22b0 : (t211 == 1) = true := beq_iff_eq.mpr c22
                        have c22b1 : (t211 != 1) = false := bne_eq_false_iff_eq.mpr c22
                        clear c22
                        by_cases c23 : t217 = 12
                        · rw [if_pos c23] at H
                          have c23b0 : (t217 == 12) = true := beq_iff_eq.mpr c23
                          have c23b1 : (t217 != 12) = false := bne_eq_false_iff_eq.mpr c23
                          clear c23
                          by_cases c24 : (t220.length : Int) = 0
                          · rw [if_pos c24] at H
                            have c24b0 : ((t220.length : Int) == 0) = true := beq_iff_eq.mpr c24
                            have c24b1 : ((t220.length : Int) != 0) = false := bne_eq_false_iff_eq.mpr c24
                            clear c24
                            by_cases c25 : t221 = 0
                            · rw [if_pos c25] at H
                              have c25b0 : (t221 == 0) = true := beq_iff_eq.mpr c25
                              have c25b1 : (t221 != 0) = false := bne_eq_false_iff_eq.mpr c25
                              clear c25
                              obtain rfl := Option.some.inj H
                              go_enter Try.func8, Try.ntmps8
                              try go_wp2_with (first | ((with_reducible refine gate_dst (N := 20) rfl ?_); (try (refine gate_guard (by rfl) ?_; dsimp only)); refine Kd.R_lit k30 _ 30 ?hg (N := 20) ?hd (xs := ([(⟨(⟨5, 2⟩ : S27), 0, 300, (⟨#[97]⟩ : ByteArray), (4607182418800017408 : Int)⟩ : S30)] : List (S30))) (inner := [.int .i64 5, .int .i64 2, .int .i64 0, .int .i64 300, .string (⟨#[97]⟩ : ByteArray), .float .f64 4607182418800017408]) (ok := fun _ => True) (okp := fun _ => True) ?hr ?hp (fun _ hk => hk) trivial (Below.refl _ _) (Nat.le_refl _) (by simp) ?_; (case hd => rfl); (case hg => rfl); (case hr => first | (go_simp; done) | (go_simp; rfl)); (case hp => exact (Reps.c6 (show Kd.M k30 _ _ _ (⟨(⟨5, 2⟩ : S27), 0, 300, (⟨#[97]⟩ : ByteArray), (4607182418800017408 : Int)⟩ : S30) [.int .i64 5, .int .i64 2, .int .i64 0, .int .i64 300, .string (⟨#[97]⟩ : ByteArray), .float .f64 4607182418800017408] from (k30_mkM _ _ _ (⟨(⟨5, 2⟩ : S27), 0, 300, (⟨#[97]⟩ : ByteArray), (4607182418800017408 : Int)⟩ : S30)  (by first | assumption | exact FB_lit _ _ rfl | exact FB_int _ | simpa using (by assumption)))) (Reps.none _ _))); intro v191 w26 ho27 hb hg_ hnew_; clear hg_ hnew_; (first | rw [← Ny190.out] at ho27 | (simp only [Int.reduceToNat] at ho27; rw [← Ny190.out] at ho27)); have n0_ := Aside0.mk (Kd.R_lower ho27 (below_size (by repeat (first | (with_reducible first | exact HB.out | apply below_alloc | apply pw_below_drewN | apply below_drew1) | exact HB.out)))); have n1_ := Aside0.mk (below_step (by repeat (first | (with_reducible first | exact HB.out | apply below_alloc | apply pw_below_drewN | apply below_drew1) | exact HB.out)) hb); clear HB; have HO192 := n0_; have HB := n1_; clear n0_ n1_; clear hb ho27; obtain ⟨Ao28, co28, eo28⟩ := Kd.R_slice HO192.out; subst eo28) | ((with_reducible refine gate_callee (f := 11) rfl ?_); refine goesL_ (some 23) rfl rfl Try.func11 (by kernel_rfl) rfl #[.slice Ao28 y190.length co28] rfl (by (try simp only [List.map_toArray, List.map_cons, List.map_nil]); first | done | rfl | (simp only [List.length_drop, List.length_take]; rfl)) ?_; (with_reducible refine (rows_Encode.calls k _ _ y190 t193 t194 _ ?side1 ?side2 A1.out).mono ?_); (case side1 => repeat (first | exact (Kd.R_reads' HO192.out).2.2 | (with_reducible refine Kd.C_alloc ?_ _) | (with_reducible refine Kd.C_drewN ?_ _) | (with_reducible refine Kd.C_drew ?_))); (case side2 => exact (Kd.R_reads' HO192.out).2.1); rintro e w29 ⟨rfl, hb⟩; refine ⟨_, rfl, ?_⟩; have n0_ := Aside0.mk (Kd.R_below (by (with_reducible repeat (first | apply Kd.R_alloc | apply Kd.R_drewN | apply Kd.R_drew)); exact HO192.out) hb); have n1_ := Aside0.mk (below_step (by repeat (first | (with_reducible first | exact HB.out | apply below_alloc | apply pw_below_drewN | apply below_drew1) | exact HB.out)) hb); clear HO192; clear HB; have HO192 := n0_; have HB := n1_; clear n0_ n1_; (try clear hb); (try clear hb2); (try clear hk); (try clear hi)) | ((with_reducible refine gate_callee (f := 13) rfl ?_); refine goesL_ (some 28) rfl rfl Try.func13 (by kernel_rfl) rfl #[.string t193] rfl (by (try simp only [List.map_toArray, List.map_cons, List.map_nil]); first | done | rfl | (simp only [List.length_drop, List.length_take]; rfl)) ?_; (with_reducible refine (rows_Decode.calls k t193 t195 t196 _ A2.out).mono ?_); rintro e w30 ⟨v197, rfl, ho0, hb⟩; refine ⟨_, rfl, ?_⟩; have n0_ := Aside0.mk (Kd.R_elder' (by (with_reducible repeat (first | apply Kd.R_alloc | apply Kd.R_drewN | apply Kd.R_drew)); exact HO192.out) (Kd.R_base ho0) hb); have n1_ := Aside0.mk (Kd.R_lower (Kd.R_new' ho0 (Kd.R_lt (by (with_reducible repeat (first | apply Kd.R_alloc | apply Kd.R_drewN | apply Kd.R_drew)); exact HO192.out))) (below_size (by repeat (first | (with_reducible first | exact HB.out | apply below_alloc | apply pw_below_drewN | apply below_drew1) | exact HB.out)))); have n2_ := Aside0.mk (below_step (by repeat (first | (with_reducible first | exact HB.out | apply below_alloc | apply pw_below_drewN | apply below_drew1) | exact HB.out)) hb); clear HO192; clear HB; have HO192 := n0_; have HO198 := n1_; have HB := n2_; clear n0_ n1_ n2_; (try clear hb); (try clear hb2); (try clear hk); (try clear hi); (try clear ho0)) | ((with_reducible refine gate_callee (f := 13) rfl ?_); refine goesL_ (some 32) rfl rfl Try.func13 (by kernel_rfl) rfl #[.string (⟨#[66, 78, 83, 73, 2, 0]⟩ : ByteArray)] rfl (by (try simp only [List.map_toArray, List.map_cons, List.map_nil]); first | done | rfl | (simp only [List.length_drop, List.length_take]; rfl)) ?_; (with_reducible refine (rows_Decode.calls k (⟨#[66, 78, 83, 73, 2, 0]⟩ : ByteArray) t199 t200 _ A3.out).mono ?_); rintro e w31 ⟨v201, rfl, ho0, hb⟩; refine ⟨_, rfl, ?_⟩; have n0_ := Aside0.mk (Kd.R_elder' (by (with_reducible repeat (first | apply Kd.R_alloc | apply Kd.R_drewN | apply Kd.R_drew)); exact HO192.out) (Kd.R_base ho0) hb); have n1_ := Aside0.mk (Kd.R_elder' (by (with_reducible repeat (first | apply Kd.R_alloc | apply Kd.R_drewN | apply Kd.R_drew)); exact HO198.out) (Kd.R_base ho0) hb); have n2_ := Aside0.mk (Kd.R_lower (Kd.R_new' (Kd.R_new' ho0 (Kd.R_lt (by (with_reducible repeat (first | apply Kd.R_alloc | apply Kd.R_drewN | apply Kd.R_drew)); exact HO192.out))) (Kd.R_lt (by (with_reducible repeat (first | apply Kd.R_alloc | apply Kd.R_drewN | apply Kd.R_drew)); exact HO198.out))) (below_size (by repeat (first | (with_reducible first | exact HB.out | apply below_alloc | apply pw_below_drewN | apply below_drew1) | exact HB.out)))); have n3_ := Aside0.mk (below_step (by repeat (first | (with_reducible first | exact HB.out | apply below_alloc | apply pw_below_drewN | apply below_drew1) | exact HB.out)) hb); clear HO192; clear HO198; clear HB; have HO192 := n0_; have HO198 := n1_; have HO202 := n2_; have HB := n3_; clear n0_ n1_ n2_ n3_; (try clear hb); (try clear hb2); (try clear hk); (try clear hi); (try clear ho0)) | ((with_reducible refine gate_callee (f := 13) rfl ?_); refine goesL_ (some 38) rfl rfl Try.func13 (by kernel_rfl) rfl #[.string (t193 ++ (⟨#[120]⟩ : ByteArray))] rfl (by (try simp only [List.map_toArray, List.map_cons, List.map_nil]); first | done | rfl | (simp only [List.length_drop, List.length_take]; rfl)) ?_; (with_reducible refine (rows_Decode.calls k (t193 ++ (⟨#[120]⟩ : ByteArray)) t203 t204 _ A5.out).mono ?_); rintro e w32 ⟨v205, rfl, ho0, hb⟩; refine ⟨_, rfl, ?_⟩; have n0_ := Aside0.mk (Kd.R_elder' (by (with_reducible repeat (first | apply Kd.R_alloc | apply Kd.R_drewN | apply Kd.R_drew)); exact HO192.out) (Kd.R_base ho0) hb); have n1_ := Aside0.mk (Kd.R_elder' (by (with_reducible repeat (first | apply Kd.R_alloc | apply Kd.R_drewN | apply Kd.R_drew)); exact HO198.out) (Kd.R_base ho0) hb); have n2_ := Aside0.mk (Kd.R_elder' (by (with_reducible repeat (first | apply Kd.R_alloc | apply Kd.R_drewN | apply Kd.R_drew)); exact HO202.out) (Kd.R_base ho0) hb); have n3_ := Aside0.mk (Kd.R_lower (Kd.R_new' (Kd.R_new' (Kd.R_new' ho0 (Kd.R_lt (by (with_reducible repeat (first | apply Kd.R_alloc | apply Kd.R_drewN | apply Kd.R_drew)); exact HO192.out))) (Kd.R_lt (by (with_reducible repeat (first | apply Kd.R_alloc | apply Kd.R_drewN | apply Kd.R_drew)); exact HO198.out))) (Kd.R_lt (by (with_reducible repeat (first | apply Kd.R_alloc | apply Kd.R_drewN | apply Kd.R_drew)); exact HO202.out))) (below_size (by repeat (first | (with_reducible first | exact HB.out | apply below_alloc | apply pw_below_drewN | apply below_drew1) | exact HB.out)))); have n4_ := Aside0.mk (below_step (by repeat (first | (with_reducible first | exact HB.out | apply below_alloc | apply pw_below_drewN | apply below_drew1) | exact HB.out)) hb); clear HO192; clear HO198; clear HO202; clear HB; have HO192 := n0_; have HO198 := n1_; have HO202 := n2_; have HO206 := n3_; have HB := n4_; clear n0_ n1_ n2_ n3_ n4_; (try clear hb); (try clear hb2); (try clear hk); (try clear hi); (try clear ho0)) | ((with_reducible refine gate_dst (N := 43) rfl ?_); (try (refine gate_guard (by rfl) ?_; dsimp only)); refine Kd.R_lit k30 _ 30 ?hg (N := 43) ?hd (xs := ([(⟨(⟨0, 0⟩ : S27), 0, 0, (⟨#[]⟩ : ByteArray), (0 : Int)⟩ : S30)] : List (S30))) (inner := [.int .i64 0, .int .i64 0, .int .i64 0, .int .i64 0, .string (⟨#[]⟩ : ByteArray), .float .f64 0]) (ok := fun _ => True) (okp := fun _ => True) ?hr ?hp (fun _ hk => hk) trivial (Below.refl _ _) (Nat.le_refl _) (by simp) ?_; (case hd => rfl); (case hg => rfl); (case hr => first | (go_simp; done) | (go_simp; rfl)); (case hp => exact (Reps.c6 (show Kd.M k30 _ _ _ (⟨(⟨0, 0⟩ : S27), 0, 0, (⟨#[]⟩ : ByteArray), (0 : Int)⟩ : S30) [.int .i64 0, .int .i64 0, .int .i64 0, .int .i64 0, .string (⟨#[]⟩ : ByteArray), .float .f64 0] from (k30_mkM _ _ _ (⟨(⟨0, 0⟩ : S27), 0, 0, (⟨#[]⟩ : ByteArray), (0 : Int)⟩ : S30)  (by first | assumption | exact FB_lit _ _ rfl | exact FB_int _ | simpa using (by assumption)))) (Reps.none _ _))); intro v208 w33 ho34 hb hg_ hnew_; clear hg_ hnew_; (first | rw [← Ny207.out] at ho34 | (simp only [Int.reduceToNat] at ho34; rw [← Ny207.out] at ho34)); have n0_ := Aside0.mk (Kd.R_elder' (by (with_reducible repeat (first | apply Kd.R_alloc | apply Kd.R_drewN | apply Kd.R_drew)); exact HO192.out) (Kd.R_base ho34) hb); have n1_ := Aside0.mk (Kd.R_elder' (by (with_reducible repeat (first | apply Kd.R_alloc | apply Kd.R_drewN | apply Kd.R_drew)); exact HO198.out) (Kd.R_base ho34) hb); have n2_ := Aside0.mk (Kd.R_elder' (by (with_reducible repeat (first | apply Kd.R_alloc | apply Kd.R_drewN | apply Kd.R_drew)); exact HO202.out) (Kd.R_base ho34) hb); have n3_ := Aside0.mk (Kd.R_elder' (by (with_reducible repeat (first | apply Kd.R_alloc | apply Kd.R_drewN | apply Kd.R_drew)); exact HO206.out) (Kd.R_base ho34) hb); have n4_ := Aside0.mk (Kd.R_lower (Kd.R_new' (Kd.R_new' (Kd.R_new' (Kd.R_new' ho34 (Kd.R_lt (by (with_reducible repeat (first | apply Kd.R_alloc | apply Kd.R_drewN | apply Kd.R_drew)); exact HO192.out))) (Kd.R_lt (by (with_reducible repeat (first | apply Kd.R_alloc | apply Kd.R_drewN | apply Kd.R_drew)); exact HO198.out))) (Kd.R_lt (by (with_reducible repeat (first | apply Kd.R_alloc | apply Kd.R_drewN | apply Kd.R_drew)); exact HO202.out))) (Kd.R_lt (by (with_reducible repeat (first | apply Kd.R_alloc | apply Kd.R_drewN | apply Kd.R_drew)); exact HO206.out))) (below_size (by repeat (first | (with_reducible first | exact HB.out | apply below_alloc | apply pw_below_drewN | apply below_drew1) | exact HB.out)))); have n5_ := Aside0.mk (below_step (by repeat (first | (with_reducible first | exact HB.out | apply below_alloc | apply pw_below_drewN | apply below_drew1) | exact HB.out)) hb); clear HO192; clear HO198; clear HO202; clear HO206; clear HB; have HO192 := n0_; have HO198 := n1_; have HO202 := n2_; have HO206 := n3_; have HO209 := n4_; have HB := n5_; clear n0_ n1_ n2_ n3_ n4_ n5_; clear hb ho34; obtain ⟨Ao35, co35, eo35⟩ := Kd.R_slice HO209.out; subst eo35) | ((with_reducible refine gate_callee (f := 11) rfl ?_); refine goesL_ (some 44) rfl rfl Try.func11 (by kernel_rfl) rfl #[.slice Ao35 y207.length co35] rfl (by (try simp only [List.map_toArray, List.map_cons, List.map_nil]); first | done | rfl | (simp only [List.length_drop, List.length_take]; rfl)) ?_; (with_reducible refine (rows_Encode.calls k _ _ y207 t210 t211 _ ?side1 ?side2 A6.out).mono ?_); (case side1 => repeat (first | exact (Kd.R_reads' HO209.out).2.2 | (with_reducible refine Kd.C_alloc ?_ _) | (with_reducible refine Kd.C_drewN ?_ _) | (with_reducible refine Kd.C_drew ?_))); (case side2 => exact (Kd.R_reads' HO209.out).2.1); rintro e w36 ⟨rfl, hb⟩; refine ⟨_, rfl, ?_⟩; have n0_ := Aside0.mk (Kd.R_below (by (with_reducible repeat (first | apply Kd.R_alloc | apply Kd.R_drewN | apply Kd.R_drew)); exact HO192.out) hb); have n1_ := Aside0.mk (Kd.R_below (by (with_reducible repeat (first | apply Kd.R_alloc | apply Kd.R_drewN | apply Kd.R_drew)); exact HO198.out) hb); have n2_ := Aside0.mk (Kd.R_below (by (with_reducible repeat (first | apply Kd.R_alloc | apply Kd.R_drewN | apply Kd.R_drew)); exact HO202.out) hb); have n3_ := Aside0.mk (Kd.R_below (by (with_reducible repeat (first | apply Kd.R_alloc | apply Kd.R_drewN | apply Kd.R_drew)); exact HO206.out) hb); have n4_ := Aside0.mk (Kd.R_below (by (with_reducible repeat (first | apply Kd.R_alloc | apply Kd.R_drewN | apply Kd.R_drew)); exact HO209.out) hb); have n5_ := Aside0.mk (below_step (by repeat (first | (with_reducible first | exact HB.out | apply below_alloc | apply pw_below_drewN | apply below_drew1) | exact HB.out)) hb); clear HO192; clear HO198; clear HO202; clear HO206; clear HO209; clear HB; have HO192 := n0_; have HO198 := n1_; have HO202 := n2_; have HO206 := n3_; have HO209 := n4_; have HB := n5_; clear n0_ n1_ n2_ n3_ n4_ n5_; (try clear hb); (try clear hb2); (try clear hk); (try clear hi)))
                              have n0_ := Aside0.mk (Kd.R_drew HO192.out)
                              have n1_ := Aside0.mk (Kd.R_drew HO198.out)
                              have n2_ := Aside0.mk (Kd.R_drew HO202.out)
                              have n3_ := Aside0.mk (Kd.R_drew HO206.out)
                              have n4_ := Aside0.mk (Kd.R_drew HO209.out)
                              have n5_ := Aside0.mk (below_drew1 HB.out)
                              clear HO192
                              clear HO198
                              clear HO202
                              clear HO206
                              clear HO209
                              clear HB
                              have HO192 := n0_
                              have HO198 := n1_
                              have HO202 := n2_
                              have HO206 := n3_
                              have HO209 := n4_
                              have HB := n5_
                              clear n0_ n1_ n2_ n3_ n4_ n5_
                              have p212 : 0 ≤ (0 : Int) := (by omega)
                              have q212 : 0 < (y190.length : Int) := of_decide_eq_true (by first | (with_reducible assumption) | assumption)
                              obtain ⟨ad212, bv212_5, e212, hx212_0, hx212_1, hx212_2, hx212_3, hx212_4, hx212_5, bq212_5⟩ := at_T30 (Kd.R_reads' HO192.out).2.2 0 p212 q212
                              cases e212
                              have qi212 : (0 < y190.length) = True := eq_true (by omega)
                              (try rw [show ((0 : Int)).toNat = 0 from rfl] at hx212_0)
                              (try rw [show 0 * 6 = 0 from rfl] at hx212_0)
                              (try rw [Addr.add_zero'] at hx212_0)
                              (try rw [show ((0 : Int)).toNat = 0 from rfl] at hx212_1)
                              (try rw [show 0 * 6 = 0 from rfl] at hx212_1)
                              (try rw [Addr.add_zero'] at hx212_1)
                              (try rw [show ((0 : Int)).toNat = 0 from rfl] at hx212_2)
                              (try rw [show 0 * 6 = 0 from rfl] at hx212_2)
                              (try rw [Addr.add_zero'] at hx212_2)
                              (try rw [show ((0 : Int)).toNat = 0 from rfl] at hx212_3)
                              (try rw [show 0 * 6 = 0 from rfl] at hx212_3)
                              (try rw [Addr.add_zero'] at hx212_3)
                              (try rw [show ((0 : Int)).toNat = 0 from rfl] at hx212_4)
                              (try rw [show 0 * 6 = 0 from rfl] at hx212_4)
                              (try rw [Addr.add_zero'] at hx212_4)
                              (try rw [show ((0 : Int)).toNat = 0 from rfl] at hx212_5)
                              (try rw [show 0 * 6 = 0 from rfl] at hx212_5)
                              (try rw [Addr.add_zero'] at hx212_5)
                              replace p212 := eq_true p212
                              replace q212 := eq_true q212
                              have p214 : 0 ≤ (0 : Int) := (by omega)
                              have q214 : 0 < (y190.length : Int) := of_decide_eq_true (by first | (with_reducible assumption) | assumption)
                              obtain ⟨ad214, bv214_5, e214, hx214_0, hx214_1, hx214_2, hx214_3, hx214_4, hx214_5, bq214_5⟩ := at_T30 (Kd.R_reads' HO192.out).2.2 0 p214 q214
                              obtain rfl : ad212 = ad214 := (by injection e214)
                              have qi214 : (0 < y190.length) = True := eq_true (by omega)
                              (try rw [show ((0 : Int)).toNat = 0 from rfl] at hx214_0)
                              (try rw [show 0 * 6 = 0 from rfl] at hx214_0)
                              (try rw [Addr.add_zero'] at hx214_0)
                              (try rw [show ((0 : Int)).toNat = 0 from rfl] at hx214_1)
                              (try rw [show 0 * 6 = 0 from rfl] at hx214_1)
                              (try rw [Addr.add_zero'] at hx214_1)
                              (try rw [show ((0 : Int)).toNat = 0 from rfl] at hx214_2)
                              (try rw [show 0 * 6 = 0 from rfl] at hx214_2)
                              (try rw [Addr.add_zero'] at hx214_2)
                              (try rw [show ((0 : Int)).toNat = 0 from rfl] at hx214_3)
                              (try rw [show 0 * 6 = 0 from rfl] at hx214_3)
                              (try rw [Addr.add_zero'] at hx214_3)
                              (try rw [show ((0 : Int)).toNat = 0 from rfl] at hx214_4)
                              (try rw [show 0 * 6 = 0 from rfl] at hx214_4)
                              (try rw [Addr.add_zero'] at hx214_4)
                              (try rw [show ((0 : Int)).toNat = 0 from rfl] at hx214_5)
                              (try rw [show 0 * 6 = 0 from rfl] at hx214_5)
                              (try rw [Addr.add_zero'] at hx214_5)
                              replace p214 := eq_true p214
                              replace q214 := eq_true q214
                              obtain rfl : bv212_5 = bv214_5 := (Value.float.inj (Option.some.inj (hx212_5.symm.trans hx214_5))).2
                              refine start_ (n := 16) (S := fun w' => w'.cell? ad212 = some (.int .i64 ((rd_T30 y190 0).f0.f0)) ∧ w'.cell? ⟨ad212.block, ad212.off + 1, none⟩ = some (.int .i64 ((rd_T30 y190 0).f0.f1)) ∧ w'.cell? ⟨ad212.block, ad212.off + 2, none⟩ = some (.int .i64 ((rd_T30 y190 0).f1)) ∧ w'.cell? ⟨ad212.block, ad212.off + 3, none⟩ = some (.int .i64 ((rd_T30 y190 0).f2)) ∧ w'.cell? ⟨ad212.block, ad212.off + 4, none⟩ = some (.string ((rd_T30 y190 0).f3)) ∧ w'.cell? ⟨ad212.block, ad212.off + 5, none⟩ = some (.float .f64 bv212_5) ∧ w'.cell? ad212 = some (.int .i64 ((rd_T30 y190 0).f0.f0)) ∧ w'.cell? ⟨ad212.block, ad212.off + 1, none⟩ = some (.int .i64 ((rd_T30 y190 0).f0.f1)) ∧ w'.cell? ⟨ad212.block, ad212.off + 2, none⟩ = some (.int .i64 ((rd_T30 y190 0).f1)) ∧ w'.cell? ⟨ad212.block, ad212.off + 3, none⟩ = some (.int .i64 ((rd_T30 y190 0).f2)) ∧ w'.cell? ⟨ad212.block, ad212.off + 4, none⟩ = some (.string ((rd_T30 y190 0).f3)) ∧ w'.cell? ⟨ad212.block, ad212.off + 5, none⟩ = some (.float .f64 bv212_5)) (ds := []) #[false, false, false, false, false, false, false, false, false, false, false, false, false, false, false, false] (by kernel_rfl) rfl rfl ⟨hx212_0, hx212_1, hx212_2, hx212_3, hx212_4, hx212_5, hx214_0, hx214_1, hx214_2, hx214_3, hx214_4, hx214_5⟩ (fun hHeld => ?_); refine with_tabW bonsailaw21_live.tab7 bonsailaw21_live.bits7 (fun HT_ HW_ => ?_)
                              generalize w36.drew = w37 at HO192 HO198 HO202 HO206 HO209 HB hx212_0 hx212_1 hx212_2 hx212_3 hx212_4 hx212_5 hx214_0 hx214_1 hx214_2 hx214_3 hx214_4 hx214_5 hHeld ⊢
                              refine pure_ (i := 0) (N := some 48) (v := ?_) (a' := ?_) #[true, false, false, false, false, false, false, false, false, false, false, false, false, false, false, false] rfl rfl (any_of HT_.out (by kernel_rfl)) (fun _ _ _ h => h) (Or.inl ⟨by rfl, ?_⟩) ?_ ?_
                              rotate_left
                              · intro w'
                                go_simp
                                with_reducible rfl
                              rotate_left
                              · simp only [Act.put, List.setIfInBounds_toArray, List.set_cons_zero, List.set_cons_succ, i64_w, i32_w]
                                rfl
                              refine pure_ (i := 1) (N := some 49) (v := ?_) (a' := ?_) #[true, true, false, false, false, false, false, false, false, false, false, false, false, false, false, false] rfl rfl (any_of HT_.out (by kernel_rfl)) (fun _ _ _ h => h) (Or.inl ⟨by rfl, ?_⟩) ?_ ?_
                              rotate_left
                              · intro w'
                                go_simp
                                with_reducible rfl
                              rotate_left
                              · simp only [Act.put, List.setIfInBounds_toArray, List.set_cons_zero, List.set_cons_succ, i64_w, i32_w]
                                rfl
                              refine pure_ (i := 5) (N := some 53) (v := ?_) (a' := ?_) #[true, true, false, false, false, true, false, false, false, false, false, false, false, false, false, false] rfl rfl (any_of HT_.out (by kernel_rfl)) (fun _ _ _ h => h) (Or.inl ⟨by rfl, ?_⟩) ?_ ?_
                              rotate_left
                              · intro w'
                                go_simp
                                with_reducible rfl
                              rotate_left
                              · simp only [Act.put, List.setIfInBounds_toArray, List.set_cons_zero, List.set_cons_succ, i64_w, i32_w]
                                rfl
                              refine pure_ (i := 6) (N := some 54) (v := ?_) (a' := ?_) #[true, true, false, false, false, true, true, false, false, false, false, false, false, false, false, false] rfl rfl (any_of HT_.out (by kernel_rfl)) (fun _ _ _ h => h) (Or.inl ⟨by rfl, ?_⟩) ?_ ?_
                              rotate_left
                              · intro w'
                                go_simp
                                with_reducible rfl
                              rotate_left
                              · simp only [Act.put, List.setIfInBounds_toArray, List.set_cons_zero, List.set_cons_succ, i64_w, i32_w]
                                rfl
                              refine take_ (i := 2) (N := some 50) (v := ?_) (a' := ?_) #[true, true, true, false, false, true, true, false, false, false, false, false, false, false, false, false] rfl rfl (take_ofW HT_.out HW_.out (by kernel_rfl)) (fun _ _ _ h => h) (Or.inl ⟨by rfl, ?_⟩) hHeld ?_ ?_
                              rotate_left
                              · rintro w' ⟨s0, s1, s2, s3, s4, s5, s6, s7, s8, s9, s10, s11⟩
                                go_simp
                                with_reducible rfl
                              rotate_left
                              · simp only [Act.put, List.setIfInBounds_toArray, List.set_cons_zero, List.set_cons_succ, i64_w, i32_w]
                                rfl
                              refine take_ (i := 7) (N := some 55) (v := ?_) (a' := ?_) #[true, true, true, false, false, true, true, true, false, false, false, false, false, false, false, false] rfl rfl (take_ofW HT_.out HW_.out (by kernel_rfl)) (fun _ _ _ h => h) (Or.inl ⟨by rfl, ?_⟩) hHeld ?_ ?_
                              rotate_left
                              · rintro w' ⟨s0, s1, s2, s3, s4, s5, s6, s7, s8, s9, s10, s11⟩
                                go_simp
                                with_reducible rfl
                              rotate_left
                              · simp only [Act.put, List.setIfInBounds_toArray, List.set_cons_zero, List.set_cons_succ, i64_w, i32_w]
                                rfl
                              refine one_ (i := 3) (N := some 51) #[true, true, true, true, false, true, true, true, false, false, false, false, false, false, false, false] rfl rfl (one_of HT_.out (by kernel_rfl)) (by decide) (fun K hK => ?_)
                              refine goes_ Try.func9 (by kernel_rfl) rfl #[.agg #[.int .i64 ((rd_T30 y190 0).f0.f0), .int .i64 ((rd_T30 y190 0).f0.f1), .int .i64 ((rd_T30 y190 0).f1), .int .i64 ((rd_T30 y190 0).f2), .string ((rd_T30 y190 0).f3), .float .f64 bv212_5]] (by rfl) rfl rfl (by (try simp only [List.map_toArray, List.map_cons, List.map_nil]); first | done | rfl | (simp only [List.length_drop, List.length_take]; rfl)) ?_
                              with_reducible refine (rows_One.calls k ((rd_T30 y190 0).f0.f0) ((rd_T30 y190 0).f0.f1) ((rd_T30 y190 0).f1) ((rd_T30 y190 0).f2) ((rd_T30 y190 0).f3) _ ((rd_T30 y190 0).f4) t213 _ ?side1 A8.out).mono ?_
                              (case side1 => exact (by first | assumption | exact FB_lit _ _ rfl | exact FB_int _ | simpa using (by assumption)))
                              rintro e w38 ⟨rfl, hb⟩
                              have HS0_ := (hb.cell (World.block_lt_of_cell? _ _ (hHeld.1))).trans (hHeld.1)
                              have HS1_ := (hb.cell (World.block_lt_of_cell? _ _ (hHeld.2.1))).trans (hHeld.2.1)
                              have HS2_ := (hb.cell (World.block_lt_of_cell? _ _ (hHeld.2.2.1))).trans (hHeld.2.2.1)
                              have HS3_ := (hb.cell (World.block_lt_of_cell? _ _ (hHeld.2.2.2.1))).trans (hHeld.2.2.2.1)
                              have HS4_ := (hb.cell (World.block_lt_of_cell? _ _ (hHeld.2.2.2.2.1))).trans (hHeld.2.2.2.2.1)
                              have HS5_ := (hb.cell (World.block_lt_of_cell? _ _ (hHeld.2.2.2.2.2.1))).trans (hHeld.2.2.2.2.2.1)
                              have HS6_ := (hb.cell (World.block_lt_of_cell? _ _ (hHeld.2.2.2.2.2.2.1))).trans (hHeld.2.2.2.2.2.2.1)
                              have HS7_ := (hb.cell (World.block_lt_of_cell? _ _ (hHeld.2.2.2.2.2.2.2.1))).trans (hHeld.2.2.2.2.2.2.2.1)
                              have HS8_ := (hb.cell (World.block_lt_of_cell? _ _ (hHeld.2.2.2.2.2.2.2.2.1))).trans (hHeld.2.2.2.2.2.2.2.2.1)
                              have HS9_ := (hb.cell (World.block_lt_of_cell? _ _ (hHeld.2.2.2.2.2.2.2.2.2.1))).trans (hHeld.2.2.2.2.2.2.2.2.2.1)
                              have HS10_ := (hb.cell (World.block_lt_of_cell? _ _ (hHeld.2.2.2.2.2.2.2.2.2.2.1))).trans (hHeld.2.2.2.2.2.2.2.2.2.2.1)
                              have HS11_ := (hb.cell (World.block_lt_of_cell? _ _ (hHeld.2.2.2.2.2.2.2.2.2.2.2))).trans (hHeld.2.2.2.2.2.2.2.2.2.2.2)
                              refine ⟨_, rfl, ?_⟩
                              have n0_ := Aside0.mk (Kd.R_below (by (with_reducible repeat (first | apply Kd.R_alloc | apply Kd.R_drewN | apply Kd.R_drew)); exact HO192.out) hb)
                              have n1_ := Aside0.mk (Kd.R_below (by (with_reducible repeat (first | apply Kd.R_alloc | apply Kd.R_drewN | apply Kd.R_drew)); exact HO198.out) hb)
                              have n2_ := Aside0.mk (Kd.R_below (by (with_reducible repeat (first | apply Kd.R_alloc | apply Kd.R_drewN | apply Kd.R_drew)); exact HO202.out) hb)
                              have n3_ := Aside0.mk (Kd.R_below (by (with_reducible repeat (first | apply Kd.R_alloc | apply Kd.R_drewN | apply Kd.R_drew)); exact HO206.out) hb)
                              have n4_ := Aside0.mk (Kd.R_below (by (with_reducible repeat (first | apply Kd.R_alloc | apply Kd.R_drewN | apply Kd.R_drew)); exact HO209.out) hb)
                              have n5_ := Aside0.mk (below_step (by repeat (first | (with_reducible first | exact HB.out | apply below_alloc | apply pw_below_drewN | apply below_drew1) | exact HB.out)) hb)
                              clear HO192
                              clear HO198
                              clear HO202
                              clear HO206
                              clear HO209
                              clear HB
                              have HO192 := n0_
                              have HO198 := n1_
                              have HO202 := n2_
                              have HO206 := n3_
                              have HO209 := n4_
                              have HB := n5_
                              clear n0_ n1_ n2_ n3_ n4_ n5_
                              (try clear hb)
                              (try clear hb2)
                              (try clear hk)
                              (try clear hi)
                              refine hK.out _ _ ⟨HS0_, HS1_, HS2_, HS3_, HS4_, HS5_, HS6_, HS7_, HS8_, HS9_, HS10_, HS11_⟩ (fun hHeld => ?_)
                              clear hK K
                              refine norm_ (a' := ?_) ?_ ?_
                              rotate_left
                              · show Act.put _ (some 51) _ = _
                                simp only [Act.put, List.setIfInBounds_toArray, List.set_cons_zero, List.set_cons_succ, i64_w, i32_w]
                                rfl
                              refine pure_ (i := 4) (N := some 52) (v := ?_) (a' := ?_) #[true, true, true, true, true, true, true, true, false, false, false, false, false, false, false, false] rfl rfl (any_of HT_.out (by kernel_rfl)) (fun _ _ _ h => h) (Or.inl ⟨by rfl, ?_⟩) ?_ ?_
                              rotate_left
                              · intro w'
                                go_simp
                                with_reducible rfl
                              rotate_left
                              · simp only [Act.put, List.setIfInBounds_toArray, List.set_cons_zero, List.set_cons_succ, i64_w, i32_w]
                                rfl
                              refine one_ (i := 8) (N := some 56) #[true, true, true, true, true, true, true, true, true, false, false, false, false, false, false, false] rfl rfl (one_of HT_.out (by kernel_rfl)) (by decide) (fun K hK => ?_)
                              refine goes_ Try.func9 (by kernel_rfl) rfl #[.agg #[.int .i64 ((rd_T30 y190 0).f0.f0), .int .i64 ((rd_T30 y190 0).f0.f1), .int .i64 ((rd_T30 y190 0).f1), .int .i64 ((rd_T30 y190 0).f2), .string ((rd_T30 y190 0).f3), .float .f64 bv212_5]] (by rfl) rfl rfl (by (try simp only [List.map_toArray, List.map_cons, List.map_nil]); first | done | rfl | (simp only [List.length_drop, List.length_take]; rfl)) ?_
                              with_reducible refine (rows_One.calls k ((rd_T30 y190 0).f0.f0) ((rd_T30 y190 0).f0.f1) ((rd_T30 y190 0).f1) ((rd_T30 y190 0).f2) ((rd_T30 y190 0).f3) _ ((rd_T30 y190 0).f4) t215 _ ?side1 A10.out).mono ?_
                              (case side1 => exact (by first | assumption | exact FB_lit _ _ rfl | exact FB_int _ | simpa using (by assumption)))
                              rintro e w39 ⟨rfl, hb⟩
                              have HS0_ := (hb.cell (World.block_lt_of_cell? _ _ (hHeld.1))).trans (hHeld.1)
                              have HS1_ := (hb.cell (World.block_lt_of_cell? _ _ (hHeld.2.1))).trans (hHeld.2.1)
                              have HS2_ := (hb.cell (World.block_lt_of_cell? _ _ (hHeld.2.2.1))).trans (hHeld.2.2.1)
                              have HS3_ := (hb.cell (World.block_lt_of_cell? _ _ (hHeld.2.2.2.1))).trans (hHeld.2.2.2.1)
                              have HS4_ := (hb.cell (World.block_lt_of_cell? _ _ (hHeld.2.2.2.2.1))).trans (hHeld.2.2.2.2.1)
                              have HS5_ := (hb.cell (World.block_lt_of_cell? _ _ (hHeld.2.2.2.2.2.1))).trans (hHeld.2.2.2.2.2.1)
                              have HS6_ := (hb.cell (World.block_lt_of_cell? _ _ (hHeld.2.2.2.2.2.2.1))).trans (hHeld.2.2.2.2.2.2.1)
                              have HS7_ := (hb.cell (World.block_lt_of_cell? _ _ (hHeld.2.2.2.2.2.2.2.1))).trans (hHeld.2.2.2.2.2.2.2.1)
                              have HS8_ := (hb.cell (World.block_lt_of_cell? _ _ (hHeld.2.2.2.2.2.2.2.2.1))).trans (hHeld.2.2.2.2.2.2.2.2.1)
                              have HS9_ := (hb.cell (World.block_lt_of_cell? _ _ (hHeld.2.2.2.2.2.2.2.2.2.1))).trans (hHeld.2.2.2.2.2.2.2.2.2.1)
                              have HS10_ := (hb.cell (World.block_lt_of_cell? _ _ (hHeld.2.2.2.2.2.2.2.2.2.2.1))).trans (hHeld.2.2.2.2.2.2.2.2.2.2.1)
                              have HS11_ := (hb.cell (World.block_lt_of_cell? _ _ (hHeld.2.2.2.2.2.2.2.2.2.2.2))).trans (hHeld.2.2.2.2.2.2.2.2.2.2.2)
                              refine ⟨_, rfl, ?_⟩
                              have n0_ := Aside0.mk (Kd.R_below (by (with_reducible repeat (first | apply Kd.R_alloc | apply Kd.R_drewN | apply Kd.R_drew)); exact HO192.out) hb)
                              have n1_ := Aside0.mk (Kd.R_below (by (with_reducible repeat (first | apply Kd.R_alloc | apply Kd.R_drewN | apply Kd.R_drew)); exact HO198.out) hb)
                              have n2_ := Aside0.mk (Kd.R_below (by (with_reducible repeat (first | apply Kd.R_alloc | apply Kd.R_drewN | apply Kd.R_drew)); exact HO202.out) hb)
                              have n3_ := Aside0.mk (Kd.R_below (by (with_reducible repeat (first | apply Kd.R_alloc | apply Kd.R_drewN | apply Kd.R_drew)); exact HO206.out) hb)
                              have n4_ := Aside0.mk (Kd.R_below (by (with_reducible repeat (first | apply Kd.R_alloc | apply Kd.R_drewN | apply Kd.R_drew)); exact HO209.out) hb)
                              have n5_ := Aside0.mk (below_step (by repeat (first | (with_reducible first | exact HB.out | apply below_alloc | apply pw_below_drewN | apply below_drew1) | exact HB.out)) hb)
                              clear HO192
                              clear HO198
                              clear HO202
                              clear HO206
                              clear HO209
                              clear HB
                              have HO192 := n0_
                              have HO198 := n1_
                              have HO202 := n2_
                              have HO206 := n3_
                              have HO209 := n4_
                              have HB := n5_
                              clear n0_ n1_ n2_ n3_ n4_ n5_
                              (try clear hb)
                              (try clear hb2)
                              (try clear hk)
                              (try clear hi)
                              refine hK.out _ _ ⟨HS0_, HS1_, HS2_, HS3_, HS4_, HS5_, HS6_, HS7_, HS8_, HS9_, HS10_, HS11_⟩ (fun hHeld => ?_)
                              clear hK K
                              refine norm_ (a' := ?_) ?_ ?_
                              rotate_left
                              · show Act.put _ (some 56) _ = _
                                simp only [Act.put, List.setIfInBounds_toArray, List.set_cons_zero, List.set_cons_succ, i64_w, i32_w]
                                rfl
                              refine pure_ (i := 9) (N := some 57) (v := ?_) (a' := ?_) #[true, true, true, true, true, true, true, true, true, true, false, false, false, false, false, false] rfl rfl (any_of HT_.out (by kernel_rfl)) (fun _ _ _ h => h) (Or.inl ⟨by rfl, ?_⟩) ?_ ?_
                              rotate_left
                              · intro w'
                                go_simp
                                with_reducible rfl
                              rotate_left
                              · simp only [Act.put, List.setIfInBounds_toArray, List.set_cons_zero, List.set_cons_succ, i64_w, i32_w]
                                rfl
                              refine one_ (i := 10) (N := some 58) #[true, true, true, true, true, true, true, true, true, true, true, false, false, false, false, false] rfl rfl (one_of HT_.out (by kernel_rfl)) (by decide) (fun K hK => ?_)
                              refine goes_ Try.func13 (by kernel_rfl) rfl #[.string (((⟨#[66, 78, 83, 73, 1, 2]⟩ : ByteArray) ++ t213) ++ t215)] (by rfl) rfl rfl (by (try simp only [List.map_toArray, List.map_cons, List.map_nil]); first | done | rfl | (simp only [List.length_drop, List.length_take]; rfl)) ?_
                              with_reducible refine (rows_Decode.calls k (((⟨#[66, 78, 83, 73, 1, 2]⟩ : ByteArray) ++ t213) ++ t215) t216 t217 _ A12.out).mono ?_
                              rintro e w40 ⟨v218, rfl, ho0, hb⟩
                              have HS0_ := (hb.cell (World.block_lt_of_cell? _ _ (hHeld.1))).trans (hHeld.1)
                              have HS1_ := (hb.cell (World.block_lt_of_cell? _ _ (hHeld.2.1))).trans (hHeld.2.1)
                              have HS2_ := (hb.cell (World.block_lt_of_cell? _ _ (hHeld.2.2.1))).trans (hHeld.2.2.1)
                              have HS3_ := (hb.cell (World.block_lt_of_cell? _ _ (hHeld.2.2.2.1))).trans (hHeld.2.2.2.1)
                              have HS4_ := (hb.cell (World.block_lt_of_cell? _ _ (hHeld.2.2.2.2.1))).trans (hHeld.2.2.2.2.1)
                              have HS5_ := (hb.cell (World.block_lt_of_cell? _ _ (hHeld.2.2.2.2.2.1))).trans (hHeld.2.2.2.2.2.1)
                              have HS6_ := (hb.cell (World.block_lt_of_cell? _ _ (hHeld.2.2.2.2.2.2.1))).trans (hHeld.2.2.2.2.2.2.1)
                              have HS7_ := (hb.cell (World.block_lt_of_cell? _ _ (hHeld.2.2.2.2.2.2.2.1))).trans (hHeld.2.2.2.2.2.2.2.1)
                              have HS8_ := (hb.cell (World.block_lt_of_cell? _ _ (hHeld.2.2.2.2.2.2.2.2.1))).trans (hHeld.2.2.2.2.2.2.2.2.1)
                              have HS9_ := (hb.cell (World.block_lt_of_cell? _ _ (hHeld.2.2.2.2.2.2.2.2.2.1))).trans (hHeld.2.2.2.2.2.2.2.2.2.1)
                              have HS10_ := (hb.cell (World.block_lt_of_cell? _ _ (hHeld.2.2.2.2.2.2.2.2.2.2.1))).trans (hHeld.2.2.2.2.2.2.2.2.2.2.1)
                              have HS11_ := (hb.cell (World.block_lt_of_cell? _ _ (hHeld.2.2.2.2.2.2.2.2.2.2.2))).trans (hHeld.2.2.2.2.2.2.2.2.2.2.2)
                              refine ⟨_, rfl, ?_⟩
                              have n0_ := Aside0.mk (Kd.R_elder' (by (with_reducible repeat (first | apply Kd.R_alloc | apply Kd.R_drewN | apply Kd.R_drew)); exact HO192.out) (Kd.R_base ho0) hb)
                              have n1_ := Aside0.mk (Kd.R_elder' (by (with_reducible repeat (first | apply Kd.R_alloc | apply Kd.R_drewN | apply Kd.R_drew)); exact HO198.out) (Kd.R_base ho0) hb)
                              have n2_ := Aside0.mk (Kd.R_elder' (by (with_reducible repeat (first | apply Kd.R_alloc | apply Kd.R_drewN | apply Kd.R_drew)); exact HO202.out) (Kd.R_base ho0) hb)
                              have n3_ := Aside0.mk (Kd.R_elder' (by (with_reducible repeat (first | apply Kd.R_alloc | apply Kd.R_drewN | apply Kd.R_drew)); exact HO206.out) (Kd.R_base ho0) hb)
                              have n4_ := Aside0.mk (Kd.R_elder' (by (with_reducible repeat (first | apply Kd.R_alloc | apply Kd.R_drewN | apply Kd.R_drew)); exact HO209.out) (Kd.R_base ho0) hb)
                              have n5_ := Aside0.mk (Kd.R_lower (Kd.R_new' (Kd.R_new' (Kd.R_new' (Kd.R_new' (Kd.R_new' ho0 (Kd.R_lt (by (with_reducible repeat (first | apply Kd.R_alloc | apply Kd.R_drewN | apply Kd.R_drew)); exact HO192.out))) (Kd.R_lt (by (with_reducible repeat (first | apply Kd.R_alloc | apply Kd.R_drewN | apply Kd.R_drew)); exact HO198.out))) (Kd.R_lt (by (with_reducible repeat (first | apply Kd.R_alloc | apply Kd.R_drewN | apply Kd.R_drew)); exact HO202.out))) (Kd.R_lt (by (with_reducible repeat (first | apply Kd.R_alloc | apply Kd.R_drewN | apply Kd.R_drew)); exact HO206.out))) (Kd.R_lt (by (with_reducible repeat (first | apply Kd.R_alloc | apply Kd.R_drewN | apply Kd.R_drew)); exact HO209.out))) (below_size (by repeat (first | (with_reducible first | exact HB.out | apply below_alloc | apply pw_below_drewN | apply below_drew1) | exact HB.out))))
                              have n6_ := Aside0.mk (below_step (by repeat (first | (with_reducible first | exact HB.out | apply below_alloc | apply pw_below_drewN | apply below_drew1) | exact HB.out)) hb)
                              clear HO192
                              clear HO198
                              clear HO202
                              clear HO206
                              clear HO209
                              clear HB
                              have HO192 := n0_
                              have HO198 := n1_
                              have HO202 := n2_
                              have HO206 := n3_
                              have HO209 := n4_
                              have HO219 := n5_
                              have HB := n6_
                              clear n0_ n1_ n2_ n3_ n4_ n5_ n6_
                              (try clear hb)
                              (try clear hb2)
                              (try clear hk)
                              (try clear hi)
                              (try clear ho0)
                              refine hK.out _ _ ⟨HS0_, HS1_, HS2_, HS3_, HS4_, HS5_, HS6_, HS7_, HS8_, HS9_, HS10_, HS11_⟩ (fun hHeld => ?_)
                              clear hK K
                              refine norm_ (a' := ?_) ?_ ?_
                              rotate_left
                              · show Act.put _ (some 58) _ = _
                                simp only [Act.put, List.setIfInBounds_toArray, List.set_cons_zero, List.set_cons_succ, i64_w, i32_w]
                                rfl
                              refine pure_ (i := 11) (N := some 47) (v := ?_) (a' := ?_) #[true, true, true, true, true, true, true, true, true, true, true, true, false, false, false, false] rfl rfl (any_of HT_.out (by kernel_rfl)) (fun _ _ _ h => h) (Or.inl ⟨by rfl, ?_⟩) ?_ ?_
                              rotate_left
                              · intro w'
                                go_simp
                                with_reducible rfl
                              rotate_left
                              · simp only [Act.put, List.setIfInBounds_toArray, List.set_cons_zero, List.set_cons_succ, i64_w, i32_w]
                                rfl
                              refine pure_ (i := 12) (N := some 59) (v := ?_) (a' := ?_) #[true, true, true, true, true, true, true, true, true, true, true, true, true, false, false, false] rfl rfl (any_of HT_.out (by kernel_rfl)) (fun _ _ _ h => h) (Or.inl ⟨by rfl, ?_⟩) ?_ ?_
                              rotate_left
                              · intro w'
                                go_simp
                                with_reducible rfl
                              rotate_left
                              · simp only [Act.put, List.setIfInBounds_toArray, List.set_cons_zero, List.set_cons_succ, i64_w, i32_w]
                                rfl
                              refine pure_ (i := 13) (N := some 60) (v := ?_) (a' := ?_) #[true, true, true, true, true, true, true, true, true, true, true, true, true, true, false, false] rfl rfl (any_of HT_.out (by kernel_rfl)) (fun _ _ _ h => h) (Or.inl ⟨by rfl, ?_⟩) ?_ ?_
                              rotate_left
                              · intro w'
                                go_simp
                                with_reducible rfl
                              rotate_left
                              · simp only [Act.put, List.setIfInBounds_toArray, List.set_cons_zero, List.set_cons_succ, i64_w, i32_w]
                                rfl
                              refine pure_ (i := 14) (N := some 12) (v := ?_) (a' := ?_) #[true, true, true, true, true, true, true, true, true, true, true, true, true, true, true, false] rfl rfl (any_of HT_.out (by kernel_rfl)) (fun _ _ _ h => h) (Or.inl ⟨by rfl, ?_⟩) ?_ ?_
                              rotate_left
                              · intro w'
                                go_simp
                                with_reducible rfl
                              rotate_left
                              · simp only [Act.put, List.setIfInBounds_toArray, List.set_cons_zero, List.set_cons_succ, i64_w, i32_w]
                                rfl
                              refine pure_ (i := 15) (N := some 13) (v := ?_) (a' := ?_) #[true, true, true, true, true, true, true, true, true, true, true, true, true, true, true, true] rfl rfl (any_of HT_.out (by kernel_rfl)) (fun _ _ _ h => h) (Or.inl ⟨by rfl, ?_⟩) ?_ ?_
                              rotate_left
                              · intro w'
                                go_simp
                                with_reducible rfl
                              rotate_left
                              · simp only [Act.put, List.setIfInBounds_toArray, List.set_cons_zero, List.set_cons_succ, i64_w, i32_w]
                                rfl
                              refine done_ (done_of HT_.out (by kernel_rfl)) ?_
                              try go_wp2_with (first | ((with_reducible refine gate_callee (f := 13) rfl ?_); refine goesL_ (some 62) rfl rfl Try.func13 (by kernel_rfl) rfl #[.string (⟨#[66, 78, 83, 73, 1, 0]⟩ : ByteArray)] rfl (by (try simp only [List.map_toArray, List.map_cons, List.map_nil]); first | done | rfl | (simp only [List.length_drop, List.length_take]; rfl)) ?_; (with_reducible refine (rows_Decode.calls k (⟨#[66, 78, 83, 73, 1, 0]⟩ : ByteArray) t220 t221 _ A13.out).mono ?_); rintro e w41 ⟨v222, rfl, ho0, hb⟩; refine ⟨_, rfl, ?_⟩; have n0_ := Aside0.mk (Kd.R_elder' (by (with_reducible repeat (first | apply Kd.R_alloc | apply Kd.R_drewN | apply Kd.R_drew)); exact HO192.out) (Kd.R_base ho0) hb); have n1_ := Aside0.mk (Kd.R_elder' (by (with_reducible repeat (first | apply Kd.R_alloc | apply Kd.R_drewN | apply Kd.R_drew)); exact HO198.out) (Kd.R_base ho0) hb); have n2_ := Aside0.mk (Kd.R_elder' (by (with_reducible repeat (first | apply Kd.R_alloc | apply Kd.R_drewN | apply Kd.R_drew)); exact HO202.out) (Kd.R_base ho0) hb); have n3_ := Aside0.mk (Kd.R_elder' (by (with_reducible repeat (first | apply Kd.R_alloc | apply Kd.R_drewN | apply Kd.R_drew)); exact HO206.out) (Kd.R_base ho0) hb); have n4_ := Aside0.mk (Kd.R_elder' (by (with_reducible repeat (first | apply Kd.R_alloc | apply Kd.R_drewN | apply Kd.R_drew)); exact HO209.out) (Kd.R_base ho0) hb); have n5_ := Aside0.mk (Kd.R_elder' (by (with_reducible repeat (first | apply Kd.R_alloc | apply Kd.R_drewN | apply Kd.R_drew)); exact HO219.out) (Kd.R_base ho0) hb); have n6_ := Aside0.mk (Kd.R_lower (Kd.R_new' (Kd.R_new' (Kd.R_new' (Kd.R_new' (Kd.R_new' (Kd.R_new' ho0 (Kd.R_lt (by (with_reducible repeat (first | apply Kd.R_alloc | apply Kd.R_drewN | apply Kd.R_drew)); exact HO192.out))) (Kd.R_lt (by (with_reducible repeat (first | apply Kd.R_alloc | apply Kd.R_drewN | apply Kd.R_drew)); exact HO198.out))) (Kd.R_lt (by (with_reducible repeat (first | apply Kd.R_alloc | apply Kd.R_drewN | apply Kd.R_drew)); exact HO202.out))) (Kd.R_lt (by (with_reducible repeat (first | apply Kd.R_alloc | apply Kd.R_drewN | apply Kd.R_drew)); exact HO206.out))) (Kd.R_lt (by (with_reducible repeat (first | apply Kd.R_alloc | apply Kd.R_drewN | apply Kd.R_drew)); exact HO209.out))) (Kd.R_lt (by (with_reducible repeat (first | apply Kd.R_alloc | apply Kd.R_drewN | apply Kd.R_drew)); exact HO219.out))) (below_size (by repeat (first | (with_reducible first | exact HB.out | apply below_alloc | apply pw_below_drewN | apply below_drew1) | exact HB.out)))); have n7_ := Aside0.mk (below_step (by repeat (first | (with_reducible first | exact HB.out | apply below_alloc | apply pw_below_drewN | apply below_drew1) | exact HB.out)) hb); clear HO192; clear HO198; clear HO202; clear HO206; clear HO209; clear HO219; clear HB; have HO192 := n0_; have HO198 := n1_; have HO202 := n2_; have HO206 := n3_; have HO209 := n4_; have HO219 := n5_; have HO223 := n6_; have HB := n7_; clear n0_ n1_ n2_ n3_ n4_ n5_ n6_ n7_; (try clear hb); (try clear hb2); (try clear hk); (try clear hi); (try clear ho0)) | ((with_reducible refine gate_callee (f := 13) rfl ?_); refine goesL_ (some 66) rfl rfl Try.func13 (by kernel_rfl) rfl #[.string (⟨#[66, 78, 83, 88]⟩ : ByteArray)] rfl (by (try simp only [List.map_toArray, List.map_cons, List.map_nil]); first | done | rfl | (simp only [List.length_drop, List.length_take]; rfl)) ?_; (with_reducible refine (rows_Decode.calls k (⟨#[66, 78, 83, 88]⟩ : ByteArray) t224 t225 _ A14.out).mono ?_); rintro e w42 ⟨v226, rfl, ho0, hb⟩; refine ⟨_, rfl, ?_⟩; have n0_ := Aside0.mk (Kd.R_elder' (by (with_reducible repeat (first | apply Kd.R_alloc | apply Kd.R_drewN | apply Kd.R_drew)); exact HO192.out) (Kd.R_base ho0) hb); have n1_ := Aside0.mk (Kd.R_elder' (by (with_reducible repeat (first | apply Kd.R_alloc | apply Kd.R_drewN | apply Kd.R_drew)); exact HO198.out) (Kd.R_base ho0) hb); have n2_ := Aside0.mk (Kd.R_elder' (by (with_reducible repeat (first | apply Kd.R_alloc | apply Kd.R_drewN | apply Kd.R_drew)); exact HO202.out) (Kd.R_base ho0) hb); have n3_ := Aside0.mk (Kd.R_elder' (by (with_reducible repeat (first | apply Kd.R_alloc | apply Kd.R_drewN | apply Kd.R_drew)); exact HO206.out) (Kd.R_base ho0) hb); have n4_ := Aside0.mk (Kd.R_elder' (by (with_reducible repeat (first | apply Kd.R_alloc | apply Kd.R_drewN | apply Kd.R_drew)); exact HO209.out) (Kd.R_base ho0) hb); have n5_ := Aside0.mk (Kd.R_elder' (by (with_reducible repeat (first | apply Kd.R_alloc | apply Kd.R_drewN | apply Kd.R_drew)); exact HO219.out) (Kd.R_base ho0) hb); have n6_ := Aside0.mk (Kd.R_elder' (by (with_reducible repeat (first | apply Kd.R_alloc | apply Kd.R_drewN | apply Kd.R_drew)); exact HO223.out) (Kd.R_base ho0) hb); have n7_ := Aside0.mk (Kd.R_lower (Kd.R_new' (Kd.R_new' (Kd.R_new' (Kd.R_new' (Kd.R_new' (Kd.R_new' (Kd.R_new' ho0 (Kd.R_lt (by (with_reducible repeat (first | apply Kd.R_alloc | apply Kd.R_drewN | apply Kd.R_drew)); exact HO192.out))) (Kd.R_lt (by (with_reducible repeat (first | apply Kd.R_alloc | apply Kd.R_drewN | apply Kd.R_drew)); exact HO198.out))) (Kd.R_lt (by (with_reducible repeat (first | apply Kd.R_alloc | apply Kd.R_drewN | apply Kd.R_drew)); exact HO202.out))) (Kd.R_lt (by (with_reducible repeat (first | apply Kd.R_alloc | apply Kd.R_drewN | apply Kd.R_drew)); exact HO206.out))) (Kd.R_lt (by (with_reducible repeat (first | apply Kd.R_alloc | apply Kd.R_drewN | apply Kd.R_drew)); exact HO209.out))) (Kd.R_lt (by (with_reducible repeat (first | apply Kd.R_alloc | apply Kd.R_drewN | apply Kd.R_drew)); exact HO219.out))) (Kd.R_lt (by (with_reducible repeat (first | apply Kd.R_alloc | apply Kd.R_drewN | apply Kd.R_drew)); exact HO223.out))) (below_size (by repeat (first | (with_reducible first | exact HB.out | apply below_alloc | apply pw_below_drewN | apply below_drew1) | exact HB.out)))); have n8_ := Aside0.mk (below_step (by repeat (first | (with_reducible first | exact HB.out | apply below_alloc | apply pw_below_drewN | apply below_drew1) | exact HB.out)) hb); clear HO192; clear HO198; clear HO202; clear HO206; clear HO209; clear HO219; clear HO223; clear HB; have HO192 := n0_; have HO198 := n1_; have HO202 := n2_; have HO206 := n3_; have HO209 := n4_; have HO219 := n5_; have HO223 := n6_; have HO227 := n7_; have HB := n8_; clear n0_ n1_ n2_ n3_ n4_ n5_ n6_ n7_ n8_; (try clear hb); (try clear hb2); (try clear hk); (try clear hi); (try clear ho0); obtain ⟨Ao43, co43, eo43⟩ := Kd.R_slice HO198.out; subst eo43) | (go_at_call 15; (with_reducible refine (bonsairef13_Same.calls k _ _ t195 _ _ y190 true _ ?side1 ?side2 ?side3 ?side4 A18.out).mono ?_); (case side1 => repeat (first | exact (Kd.R_reads' HO198.out).2.2 | (with_reducible refine Kd.C_alloc ?_ _) | (with_reducible refine Kd.C_drewN ?_ _) | (with_reducible refine Kd.C_drew ?_))); (case side2 => exact (Kd.R_reads' HO198.out).2.1); (case side3 => repeat (first | exact (Kd.R_reads' HO192.out).2.2 | (with_reducible refine Kd.C_alloc ?_ _) | (with_reducible refine Kd.C_drewN ?_ _) | (with_reducible refine Kd.C_drew ?_))); (case side4 => exact (Kd.R_reads' HO192.out).2.1); rintro e w44 ⟨rfl, hb⟩; have n0_ := Aside0.mk (Kd.R_below (by (with_reducible repeat (first | apply Kd.R_alloc | apply Kd.R_drewN | apply Kd.R_drew)); exact HO192.out) hb); have n1_ := Aside0.mk (Kd.R_below (by (with_reducible repeat (first | apply Kd.R_alloc | apply Kd.R_drewN | apply Kd.R_drew)); exact HO198.out) hb); have n2_ := Aside0.mk (Kd.R_below (by (with_reducible repeat (first | apply Kd.R_alloc | apply Kd.R_drewN | apply Kd.R_drew)); exact HO202.out) hb); have n3_ := Aside0.mk (Kd.R_below (by (with_reducible repeat (first | apply Kd.R_alloc | apply Kd.R_drewN | apply Kd.R_drew)); exact HO206.out) hb); have n4_ := Aside0.mk (Kd.R_below (by (with_reducible repeat (first | apply Kd.R_alloc | apply Kd.R_drewN | apply Kd.R_drew)); exact HO209.out) hb); have n5_ := Aside0.mk (Kd.R_below (by (with_reducible repeat (first | apply Kd.R_alloc | apply Kd.R_drewN | apply Kd.R_drew)); exact HO219.out) hb); have n6_ := Aside0.mk (Kd.R_below (by (with_reducible repeat (first | apply Kd.R_alloc | apply Kd.R_drewN | apply Kd.R_drew)); exact HO223.out) hb); have n7_ := Aside0.mk (Kd.R_below (by (with_reducible repeat (first | apply Kd.R_alloc | apply Kd.R_drewN | apply Kd.R_drew)); exact HO227.out) hb); have n8_ := Aside0.mk (below_step (by repeat (first | (with_reducible first | exact HB.out | apply below_alloc | apply pw_below_drewN | apply below_drew1) | exact HB.out)) hb); clear HO192; clear HO198; clear HO202; clear HO206; clear HO209; clear HO219; clear HO223; clear HO227; clear HB; have HO192 := n0_; have HO198 := n1_; have HO202 := n2_; have HO206 := n3_; have HO209 := n4_; have HO219 := n5_; have HO223 := n6_; have HO227 := n7_; have HB := n8_; clear n0_ n1_ n2_ n3_ n4_ n5_ n6_ n7_ n8_; (try clear hb); (try clear hb2); (try clear hk); (try clear hi); obtain ⟨Ao45, co45, eo45⟩ := Kd.R_slice HO223.out; subst eo45))
                              go_ret
                              exact ⟨by first | rfl | (simp [errW_none, errW_some] <;> rfl) | (simp [*, errW_none, errW_some] <;> rfl), by repeat (first | (with_reducible first | exact HB.out | apply below_alloc | apply pw_below_drewN | apply below_drew1) | exact HB.out)⟩
                            · rw [if_neg c25] at H
                              exact absurd H (by simp)
                          · rw [if_neg c24] at H
                            exact absurd H (by simp)
                        · rw [if_neg c23] at H
                          exact absurd H (by simp)
                      · rw [if_neg c22] at H
                        exact absurd H (by simp)
                    · rw [if_neg c21] at H
                      exact absurd H (by simp)
                  · rw [if_neg c20] at H
                    exact absurd H (by simp)
                · replace c19 := Bool.eq_false_iff.mpr c19
                  subst c19
                  have H1 : (none) = some r := by rw [if_neg (show ¬ (false = true) by decide)] at H; exact H
                  clear H
                  have H := H1
                  clear H1
                  exact absurd H (by simp)
              · rw [if_neg c17] at H
                exact absurd H (by simp)
            · rw [if_neg c16] at H
              exact absurd H (by simp)
          · rw [if_neg c15] at H
            exact absurd H (by simp)
        · rw [if_neg c11] at H
          exact absurd H (by simp)
      · rw [if_neg c9] at H
        exact absurd H (by simp)
    · rw [if_neg c7] at H
      exact absurd H (by simp)
  · rw [if_neg c4] at H
    exact absurd H (by simp)
def bonsairef03_Put.l0 : Nat → Int → List Int → Option (ByteArray)
  | 0, _, _ => none
  | k + 1, x0, x3 => if x0 > 127 then (if x3.length < 140737488355328 then (bonsairef03_Put.l0 k (IntKind.u64.wrap (Int.tdiv x0 128)) (x3 ++ [((Int.tmod x0 128) + 128) % 256])) else (none)) else (if x3.length < 140737488355328 then (some (strOfNums (x3 ++ [(x0) % 256]))) else (none))
def bonsairef03_Put.f (k : Nat) (a0 : Int) : Option (ByteArray) := bonsairef03_Put.l0 k a0 (([] : List Int))
def bonsairef04_Put.f (k : Nat) (a0 : ByteArray) : Option (ByteArray) := (bonsairef03_Put.f k (IntKind.u64.wrap ((a0.size : Int)))).bind fun t238 => (if t238.size + a0.size ≤ 9223372036854775807 then (some (t238 ++ a0)) else (none))
def bonsairef03_Fixed.l0 : Nat → Int → List Int → Int → Option (ByteArray)
  | 0, _, _, _ => none
  | k + 1, x0, x3, x4 => if x4 < 8 then (if x3.length < 140737488355328 then (bonsairef03_Fixed.l0 k (IntKind.u64.wrap (Int.tdiv x0 256)) (x3 ++ [(Int.tmod x0 256) % 256]) (wrap64 (x4 + 1))) else (none)) else (some (strOfNums x3))
def bonsairef03_Fixed.f (k : Nat) (a0 : Int) : Option (ByteArray) := bonsairef03_Fixed.l0 k a0 (([] : List Int)) 0
end Go.Proofs.Ytfgnjndfnijjoaa.Print
end
section
namespace Go.Proofs.Ytfgnjndfnijjoaa.Print
open Go.RowKit Go.Proofs.YtfgnjndfnijjoaaW.PrintWords Go.Proofs.YtfgnjndfnijjoaaW.PrintLast Go.Proofs.YtfgnjndfnijjoaaW.PrintMore
attribute [local go_sem] max2_int min2_int max_two min_two max_three min_three max_four min_four
attribute [local go_sem] run_store_float
set_option linter.unusedVariables false
set_option linter.unusedSimpArgs false
def bonsairef21_One.f (k : Nat) (a0_0 : Int) (a0_1 : Int) (a0_2 : Int) (a0_3 : Int) (a0_4 : ByteArray) (a0_5 : Int) : Option (ByteArray) := (bonsairef03_Put.f k (IntKind.u64.wrap (a0_0))).bind fun t246 => ((bonsairef03_Put.f k (IntKind.u64.wrap (a0_1))).bind fun t247 => (if t246.size + t247.size ≤ 9223372036854775807 then ((bonsairef03_Put.f k (IntKind.u64.wrap (a0_2))).bind fun t248 => (if (t246 ++ t247).size + t248.size ≤ 9223372036854775807 then ((bonsairef03_Put.f k (IntKind.u64.wrap (a0_3))).bind fun t249 => (if ((t246 ++ t247) ++ t248).size + t249.size ≤ 9223372036854775807 then ((bonsairef04_Put.f k a0_4).bind fun t250 => (if (((t246 ++ t247) ++ t248) ++ t249).size + t250.size ≤ 9223372036854775807 then ((bonsairef01_Bits.f a0_5).bind fun t251 => ((bonsairef03_Fixed.f k t251).bind fun t252 => (if ((((t246 ++ t247) ++ t248) ++ t249) ++ t250).size + t252.size ≤ 9223372036854775807 then (some (((((t246 ++ t247) ++ t248) ++ t249) ++ t250) ++ t252)) else (none)))) else (none))) else (none))) else (none))) else (none)))
def bonsairef13_Time.f (a0_0 : Int) (a0_1 : Int) : Option (Bool) := if a0_0 ≥ 1 then (if a0_0 ≤ 4611686018427387903 then (if a0_1 ≥ 1 then (some (decide (a0_1 ≤ 255))) else (some false)) else (some false)) else (some false)
set_option maxHeartbeats 8000000 in
set_option maxRecDepth 100000 in
theorem bonsairef13_Time.calls (a0_0 : Int) (a0_1 : Int) (r : Bool) (w : World) (h : bonsairef13_Time.f a0_0 a0_1 = some r) :
    Calls Try.prog 72 #[.agg #[.int .i64 a0_0, .int .i64 a0_1]] w fun e w' => e = .returned (.bool r) ∧ Below w.heap.size w w' := by
  have hu27 := Try.underlying27
  have HB := Aside0.mk (Below.refl w.heap.size w)
  have H : (if a0_0 ≥ 1 then (if a0_0 ≤ 4611686018427387903 then (if a0_1 ≥ 1 then (some (decide (a0_1 ≤ 255))) else (some false)) else (some false)) else (some false)) = some r := h
  clear h
  by_cases c2 : a0_0 ≥ 1
  · rw [if_pos c2] at H
    have c2b0 : decide (1 ≤ a0_0) = true := decide_eq_true c2
    clear c2
    by_cases c3 : a0_0 ≤ 4611686018427387903
    · rw [if_pos c3] at H
      have c3b0 : decide (a0_0 ≤ 4611686018427387903) = true := decide_eq_true c3
      clear c3
      by_cases c4 : a0_1 ≥ 1
      · rw [if_pos c4] at H
        have c4b0 : decide (1 ≤ a0_1) = true := decide_eq_true c4
        clear c4
        obtain rfl := Option.some.inj H
        go_enter Try.func72, Try.ntmps72
        go_wp2_with (first | ((with_reducible refine gate_dst (N := 1) rfl ?_); refine box_event ?hg (N := 1) ?hd (cs := #[.int .i64 a0_0, .int .i64 a0_1]) (t := 27) ?hr ?_; (case hd => rfl); (case hg => rfl); (case hr => first | (go_simp; done) | (go_simp; rfl)); intro gb253 hg w5 hbox hb; have n0_ := Aside0.mk (below_step (by repeat (first | (with_reducible first | exact HB.out | apply below_alloc | apply pw_below_drewN | apply below_drew1) | exact HB.out)) hb); have n1_ := Aside0.mk (hbox); have n2_ := Aside0.mk ((by rw [hg]; exact (below_size (by repeat (first | (with_reducible first | exact HB.out | apply below_alloc | apply pw_below_drewN | apply below_drew1) | exact HB.out))) : w.heap.size ≤ gb253)); have n3_ := Aside0.mk ((by rw [hg]; exact (below_size (by repeat (first | (with_reducible first | exact HB.out | apply below_alloc | apply pw_below_drewN | apply below_drew1) | exact HB.out))) : w.heap.size ≤ gb253)); clear HB; have HB := n0_; have BK253 := n1_; have GW253 := n2_; have GE253 := n3_; clear n0_ n1_ n2_ n3_; clear hb hbox hg; have hcz6_0 : w5.cell? ⟨gb253, 0, none⟩ = some (.int .i64 a0_0) := (blk_cell BK253.out 0).trans rfl; have hcz6_1 : w5.cell? ⟨gb253, 1, none⟩ = some (.int .i64 a0_1) := (blk_cell BK253.out 1).trans rfl; have hfz6_0 := blk_frozen BK253.out 0; have hfz6_1 := blk_frozen BK253.out 1))
        go_ret
        exact ⟨by first | rfl | (simp [errW_none, errW_some] <;> rfl) | (simp [*, errW_none, errW_some] <;> rfl), by repeat (first | (with_reducible first | exact HB.out | apply below_alloc | apply pw_below_drewN | apply below_drew1 | refine below_set ?_ GE253.out) | exact HB.out)⟩
      · rw [if_neg c4] at H
        have c4b0 : decide (1 ≤ a0_1) = false := decide_eq_false c4
        clear c4
        obtain rfl := Option.some.inj H
        go_enter Try.func72, Try.ntmps72
        go_wp2_with (first | ((with_reducible refine gate_dst (N := 1) rfl ?_); refine box_event ?hg (N := 1) ?hd (cs := #[.int .i64 a0_0, .int .i64 a0_1]) (t := 27) ?hr ?_; (case hd => rfl); (case hg => rfl); (case hr => first | (go_simp; done) | (go_simp; rfl)); intro gb253 hg w7 hbox hb; have n0_ := Aside0.mk (below_step (by repeat (first | (with_reducible first | exact HB.out | apply below_alloc | apply pw_below_drewN | apply below_drew1) | exact HB.out)) hb); have n1_ := Aside0.mk (hbox); have n2_ := Aside0.mk ((by rw [hg]; exact (below_size (by repeat (first | (with_reducible first | exact HB.out | apply below_alloc | apply pw_below_drewN | apply below_drew1) | exact HB.out))) : w.heap.size ≤ gb253)); have n3_ := Aside0.mk ((by rw [hg]; exact (below_size (by repeat (first | (with_reducible first | exact HB.out | apply below_alloc | apply pw_below_drewN | apply below_drew1) | exact HB.out))) : w.heap.size ≤ gb253)); clear HB; have HB := n0_; have BK253 := n1_; have GW253 := n2_; have GE253 := n3_; clear n0_ n1_ n2_ n3_; clear hb hbox hg; have hcz8_0 : w7.cell? ⟨gb253, 0, none⟩ = some (.int .i64 a0_0) := (blk_cell BK253.out 0).trans rfl; have hcz8_1 : w7.cell? ⟨gb253, 1, none⟩ = some (.int .i64 a0_1) := (blk_cell BK253.out 1).trans rfl; have hfz8_0 := blk_frozen BK253.out 0; have hfz8_1 := blk_frozen BK253.out 1))
        go_ret
        exact ⟨by first | rfl | (simp [errW_none, errW_some] <;> rfl) | (simp [*, errW_none, errW_some] <;> rfl), by repeat (first | (with_reducible first | exact HB.out | apply below_alloc | apply pw_below_drewN | apply below_drew1 | refine below_set ?_ GE253.out) | exact HB.out)⟩
    · rw [if_neg c3] at H
      have c3b0 : decide (a0_0 ≤ 4611686018427387903) = false := decide_eq_false c3
      clear c3
      obtain rfl := Option.some.inj H
      go_enter Try.func72, Try.ntmps72
      go_wp2_with (first | ((with_reducible refine gate_dst (N := 1) rfl ?_); refine box_event ?hg (N := 1) ?hd (cs := #[.int .i64 a0_0, .int .i64 a0_1]) (t := 27) ?hr ?_; (case hd => rfl); (case hg => rfl); (case hr => first | (go_simp; done) | (go_simp; rfl)); intro gb253 hg w9 hbox hb; have n0_ := Aside0.mk (below_step (by repeat (first | (with_reducible first | exact HB.out | apply below_alloc | apply pw_below_drewN | apply below_drew1) | exact HB.out)) hb); have n1_ := Aside0.mk (hbox); have n2_ := Aside0.mk ((by rw [hg]; exact (below_size (by repeat (first | (with_reducible first | exact HB.out | apply below_alloc | apply pw_below_drewN | apply below_drew1) | exact HB.out))) : w.heap.size ≤ gb253)); have n3_ := Aside0.mk ((by rw [hg]; exact (below_size (by repeat (first | (with_reducible first | exact HB.out | apply below_alloc | apply pw_below_drewN | apply below_drew1) | exact HB.out))) : w.heap.size ≤ gb253)); clear HB; have HB := n0_; have BK253 := n1_; have GW253 := n2_; have GE253 := n3_; clear n0_ n1_ n2_ n3_; clear hb hbox hg; have hcz10_0 : w9.cell? ⟨gb253, 0, none⟩ = some (.int .i64 a0_0) := (blk_cell BK253.out 0).trans rfl; have hcz10_1 : w9.cell? ⟨gb253, 1, none⟩ = some (.int .i64 a0_1) := (blk_cell BK253.out 1).trans rfl; have hfz10_0 := blk_frozen BK253.out 0; have hfz10_1 := blk_frozen BK253.out 1))
      go_ret
      exact ⟨by first | rfl | (simp [errW_none, errW_some] <;> rfl) | (simp [*, errW_none, errW_some] <;> rfl), by repeat (first | (with_reducible first | exact HB.out | apply below_alloc | apply pw_below_drewN | apply below_drew1 | refine below_set ?_ GE253.out) | exact HB.out)⟩
  · rw [if_neg c2] at H
    have c2b0 : decide (1 ≤ a0_0) = false := decide_eq_false c2
    clear c2
    obtain rfl := Option.some.inj H
    go_enter Try.func72, Try.ntmps72
    go_wp2_with (first | ((with_reducible refine gate_dst (N := 1) rfl ?_); refine box_event ?hg (N := 1) ?hd (cs := #[.int .i64 a0_0, .int .i64 a0_1]) (t := 27) ?hr ?_; (case hd => rfl); (case hg => rfl); (case hr => first | (go_simp; done) | (go_simp; rfl)); intro gb253 hg w11 hbox hb; have n0_ := Aside0.mk (below_step (by repeat (first | (with_reducible first | exact HB.out | apply below_alloc | apply pw_below_drewN | apply below_drew1) | exact HB.out)) hb); have n1_ := Aside0.mk (hbox); have n2_ := Aside0.mk ((by rw [hg]; exact (below_size (by repeat (first | (with_reducible first | exact HB.out | apply below_alloc | apply pw_below_drewN | apply below_drew1) | exact HB.out))) : w.heap.size ≤ gb253)); have n3_ := Aside0.mk ((by rw [hg]; exact (below_size (by repeat (first | (with_reducible first | exact HB.out | apply below_alloc | apply pw_below_drewN | apply below_drew1) | exact HB.out))) : w.heap.size ≤ gb253)); clear HB; have HB := n0_; have BK253 := n1_; have GW253 := n2_; have GE253 := n3_; clear n0_ n1_ n2_ n3_; clear hb hbox hg; have hcz12_0 : w11.cell? ⟨gb253, 0, none⟩ = some (.int .i64 a0_0) := (blk_cell BK253.out 0).trans rfl; have hcz12_1 : w11.cell? ⟨gb253, 1, none⟩ = some (.int .i64 a0_1) := (blk_cell BK253.out 1).trans rfl; have hfz12_0 := blk_frozen BK253.out 0; have hfz12_1 := blk_frozen BK253.out 1))
    go_ret
    exact ⟨by first | rfl | (simp [errW_none, errW_some] <;> rfl) | (simp [*, errW_none, errW_some] <;> rfl), by repeat (first | (with_reducible first | exact HB.out | apply below_alloc | apply pw_below_drewN | apply below_drew1 | refine below_set ?_ GE253.out) | exact HB.out)⟩
def bonsairef04_in.f (a0 : ByteArray) (a1 : Int) (a2 : Int) (a3 : Int) : Option (Bool) := if a1 < (a0.size : Int) then (if 0 ≤ a1 then (if (wrap64 (bt a0 a1)) ≥ a2 then (some (decide ((wrap64 (bt a0 a1)) ≤ a3))) else (some false)) else (none)) else (some false)
set_option maxHeartbeats 8000000 in
set_option maxRecDepth 100000 in
theorem bonsairef04_in.calls (a0 : ByteArray) (a1 : Int) (a2 : Int) (a3 : Int) (r : Bool) (w : World) (h : bonsairef04_in.f a0 a1 a2 a3 = some r) :
    Calls Try.prog 95 #[.string a0, .int .i64 a1, .int .i64 a2, .int .i64 a3] w fun e w' => e = .returned (.bool r) ∧ Drawn0 w w' := by
  have H : (if a1 < (a0.size : Int) then (if 0 ≤ a1 then (if (wrap64 (bt a0 a1)) ≥ a2 then (some (decide ((wrap64 (bt a0 a1)) ≤ a3))) else (some false)) else (none)) else (some false)) = some r := h
  clear h
  by_cases c5 : a1 < (a0.size : Int)
  · rw [if_pos c5] at H
    have c5b0 : decide (a1 < (a0.size : Int)) = true := decide_eq_true c5
    clear c5
    by_cases c6 : 0 ≤ a1
    · rw [if_pos c6] at H
      have c6b0 : decide (0 ≤ a1) = true := decide_eq_true c6
      clear c6
      by_cases c8 : (wrap64 (bt a0 a1)) ≥ a2
      · rw [if_pos c8] at H
        have c8b0 : decide (a2 ≤ (wrap64 (bt a0 a1))) = true := decide_eq_true c8
        clear c8
        obtain rfl := Option.some.inj H
        have p7 : 0 ≤ (a1 : Int) := of_decide_eq_true (by first | (with_reducible assumption) | assumption)
        have q7 : a1 < (a0.size : Int) := of_decide_eq_true (by first | (with_reducible assumption) | assumption)
        have hx7 := bt_at a0 a1
        replace p7 := eq_true p7
        replace q7 := eq_true q7
        have p9 : 0 ≤ (a1 : Int) := of_decide_eq_true (by first | (with_reducible assumption) | assumption)
        have q9 : a1 < (a0.size : Int) := of_decide_eq_true (by first | (with_reducible assumption) | assumption)
        have hx9 := bt_at a0 a1
        replace p9 := eq_true p9
        replace q9 := eq_true q9
        go_enter Try.func95, Try.ntmps95
        go_wp2
        go_ret
        exact ⟨by first | rfl | (simp; done) | (simp [*]; done), by repeat (first | exact Drawn0.refl _ | apply Drawn0.step)⟩
      · rw [if_neg c8] at H
        have c8b0 : decide (a2 ≤ (wrap64 (bt a0 a1))) = false := decide_eq_false c8
        clear c8
        obtain rfl := Option.some.inj H
        have p7 : 0 ≤ (a1 : Int) := of_decide_eq_true (by first | (with_reducible assumption) | assumption)
        have q7 : a1 < (a0.size : Int) := of_decide_eq_true (by first | (with_reducible assumption) | assumption)
        have hx7 := bt_at a0 a1
        replace p7 := eq_true p7
        replace q7 := eq_true q7
        go_enter Try.func95, Try.ntmps95
        go_wp2
        go_ret
        exact ⟨by first | rfl | (simp; done) | (simp [*]; done), by repeat (first | exact Drawn0.refl _ | apply Drawn0.step)⟩
    · rw [if_neg c6] at H
      exact absurd H (by simp)
  · rw [if_neg c5] at H
    have c5b0 : decide (a1 < (a0.size : Int)) = false := decide_eq_false c5
    clear c5
    obtain rfl := Option.some.inj H
    go_enter Try.func95, Try.ntmps95
    go_wp2
    go_ret
    exact ⟨by first | rfl | (simp; done) | (simp [*]; done), by repeat (first | exact Drawn0.refl _ | apply Drawn0.step)⟩
end Go.Proofs.Ytfgnjndfnijjoaa.Print
end
section
namespace Go.Proofs.Ytfgnjndfnijjoaa.Print
open Go.RowKit Go.Proofs.YtfgnjndfnijjoaaW.PrintWords Go.Proofs.YtfgnjndfnijjoaaW.PrintLast Go.Proofs.YtfgnjndfnijjoaaW.PrintMore
attribute [local go_sem] max2_int min2_int max_two min_two max_three min_three max_four min_four
attribute [local go_sem] run_store_float
set_option linter.unusedVariables false
set_option linter.unusedSimpArgs false
theorem in_val (s : ByteArray) (i lo hi : Int) (h : 0 ≤ i) : bonsairef04_in.f s i lo hi = some (decide (i < s.size ∧ lo ≤ bt s i ∧ bt s i ≤ hi)) := by
  have hr := bt_range s i
  have hw : wrap64 (bt s i) = bt s i := by unfold wrap64; omega
  unfold bonsairef04_in.f
  rw [hw]
  by_cases h1 : i < (s.size : Int)
  · rw [if_pos h1, if_pos h]
    by_cases h2 : bt s i ≥ lo
    · rw [if_pos h2]; congr 1; simp only [decide_eq_decide]; omega
    · rw [if_neg h2]; congr 1; symm; simp only [decide_eq_false_iff_not]; omega
  · rw [if_neg h1]; congr 1; symm; simp only [decide_eq_false_iff_not]; omega
theorem in_yes (s : ByteArray) (i lo hi : Int) (w : World) (h : 0 ≤ i ∧ i < s.size ∧ lo ≤ bt s i ∧ bt s i ≤ hi) :
    Calls Try.prog 95 #[.string s, .int .i64 i, .int .i64 lo, .int .i64 hi] w fun e w' => e = .returned (.bool true) ∧ ∃ n, w' = w.drewN n :=
  (bonsairef04_in.calls s i lo hi true w (by rw [in_val s i lo hi h.1]; simp; omega)).mono fun _ _ h => ⟨h.1, h.2.out⟩
theorem in_no (s : ByteArray) (i lo hi : Int) (w : World) (h : 0 ≤ i ∧ (s.size ≤ i ∨ bt s i < lo ∨ hi < bt s i)) :
    Calls Try.prog 95 #[.string s, .int .i64 i, .int .i64 lo, .int .i64 hi] w fun e w' => e = .returned (.bool false) ∧ ∃ n, w' = w.drewN n :=
  (bonsairef04_in.calls s i lo hi false w (by rw [in_val s i lo hi h.1]; simp; omega)).mono fun _ _ h => ⟨h.1, h.2.out⟩
theorem sgStep_getD (s : ByteArray) (i : Int) : (sgStep s i).getD 0 =
    if (sgH (bt s i)).2.2.2 = false then 0 else if (s.size : Int) - i ≤ (sgH (bt s i)).1 then 0
    else if sgR s (sgH (bt s i)).1.toNat (i + 1) (sgH (bt s i)).2.1 (sgH (bt s i)).2.2.1 = true then 1 + (sgH (bt s i)).1 else 0 := by
  unfold sgStep
  repeat' split
  all_goals rfl
theorem sgH_is (b : Int) : sgH b = if b < 128 then (0, 128, 191, true) else (if b < 194 then (0, 128, 191, false) else (if b < 224 then (1, 128, 191, true) else (if b < 240 then (if b = 224 then (2, 160, 191, true) else (if b = 237 then (2, 128, 159, true) else (2, 128, 191, true))) else (if b < 245 then (if b = 240 then (3, 144, 191, true) else (if b = 244 then (3, 128, 143, true) else (3, 128, 191, true))) else (0, 128, 191, false))))) := rfl
theorem sgR_0 (s : ByteArray) (i lo hi : Int) : (sgR s (0 : Int).toNat i lo hi = true) = True := by simp [sgR]
theorem sgR_1 (s : ByteArray) (i lo hi : Int) : (sgR s (1 : Int).toNat i lo hi = true) = (lo ≤ bt s i ∧ bt s i ≤ hi) := by
  show (sgR s 1 i lo hi = true) = _
  simp only [sgR, eq_iff_iff]
  (repeat' split) <;> simp <;> omega
theorem sgR_2 (s : ByteArray) (i lo hi : Int) : (sgR s (2 : Int).toNat i lo hi = true) = (lo ≤ bt s i ∧ bt s i ≤ hi ∧ 128 ≤ bt s (i + 1) ∧ bt s (i + 1) ≤ 191) := by
  show (sgR s 2 i lo hi = true) = _
  simp only [sgR, eq_iff_iff]
  (repeat' split) <;> simp <;> omega
theorem sgR_3 (s : ByteArray) (i lo hi : Int) : (sgR s (3 : Int).toNat i lo hi = true) = (lo ≤ bt s i ∧ bt s i ≤ hi ∧ 128 ≤ bt s (i + 1) ∧ bt s (i + 1) ≤ 191 ∧ 128 ≤ bt s (i + 1 + 1) ∧ bt s (i + 1 + 1) ≤ 191) := by
  show (sgR s 3 i lo hi = true) = _
  simp only [sgR, eq_iff_iff]
  (repeat' split) <;> simp <;> omega
def bonsairef04_sign.f (s : ByteArray) (i : Int) : Option Int := if 0 ≤ i ∧ i < s.size ∧ s.size ≤ 9223372036854775000 then some ((sgStep s i).getD 0) else none
def SignSaid (s : ByteArray) (i : Int) (w : World) : Prop := Calls Try.prog 93 #[.string s, .int .i64 i] w fun e w' => e = .returned (.int .i64 ((sgStep s i).getD 0)) ∧ Drawn0 w w'
set_option maxHeartbeats 8000000 in
set_option maxRecDepth 100000 in
theorem sign_asc0 (s : ByteArray) (i : Int) (w : World) (h0 : 0 ≤ i) (hi : i < s.size) (hs : s.size ≤ 9223372036854775000) (hr : 0 ≤ bt s i) (cb : bt s i < 128)  : SignSaid s i w := by
  have hv : (sgStep s i).getD 0 = 1 := by
    have hH := sgH_is (bt s i)
    repeat (first | rw [if_pos (by omega)] at hH | rw [if_neg (by omega)] at hH)
    rw [sgStep_getD, hH]
    try simp only [sgR_0, sgR_1, sgR_2, sgR_3, reduceCtorEq, if_false, if_true, show i + 1 + 1 = i + 2 by omega, show i + 2 + 1 = i + 3 by omega]
    (try repeat (first | rw [if_pos (by omega)] | rw [if_neg (by omega)]))
    all_goals first | rfl | ((repeat' split) <;> first | rfl | omega)
  unfold SignSaid
  rw [hv]
  clear hv
  go_enter Try.func93, Try.ntmps93
  go_wp2_with (first | (go_at_call 95; (with_reducible refine (in_yes _ _ _ _ _ (by omega)).mono ?_); rintro e w' ⟨rfl, ⟨nd, rfl⟩⟩) | (go_at_call 95; (with_reducible refine (in_no _ _ _ _ _ (by omega)).mono ?_); rintro e w' ⟨rfl, ⟨nd, rfl⟩⟩))
  go_ret
  exact ⟨rfl, by repeat (first | exact Drawn0.refl _ | apply Drawn0.step)⟩
set_option maxHeartbeats 8000000 in
set_option maxRecDepth 100000 in
theorem sign_bad0 (s : ByteArray) (i : Int) (w : World) (h0 : 0 ≤ i) (hi : i < s.size) (hs : s.size ≤ 9223372036854775000) (hr : 0 ≤ bt s i) (cb : (128 ≤ bt s i ∧ bt s i < 194 ∨ 245 ≤ bt s i)) (c1 : (s.size ≤ i + 2 ∨ bt s (i + 2) < 128 ∨ 191 < bt s (i + 2))) : SignSaid s i w := by
  have hv : (sgStep s i).getD 0 = 0 := by
    rcases cb with cb | cb
    all_goals
      have hH := sgH_is (bt s i)
      repeat (first | rw [if_pos (by omega)] at hH | rw [if_neg (by omega)] at hH)
      rw [sgStep_getD, hH]
      try simp only [sgR_0, sgR_1, sgR_2, sgR_3, reduceCtorEq, if_false, if_true, show i + 1 + 1 = i + 2 by omega, show i + 2 + 1 = i + 3 by omega]
      (try repeat (first | rw [if_pos (by omega)] | rw [if_neg (by omega)]))
      all_goals first | rfl | ((repeat' split) <;> first | rfl | omega)
  unfold SignSaid
  rw [hv]
  clear hv
  go_enter Try.func93, Try.ntmps93
  go_wp2_with (first | (go_at_call 95; (with_reducible refine (in_yes _ _ _ _ _ (by omega)).mono ?_); rintro e w' ⟨rfl, ⟨nd, rfl⟩⟩) | (go_at_call 95; (with_reducible refine (in_no _ _ _ _ _ (by omega)).mono ?_); rintro e w' ⟨rfl, ⟨nd, rfl⟩⟩))
  go_ret
  exact ⟨rfl, by repeat (first | exact Drawn0.refl _ | apply Drawn0.step)⟩
set_option maxHeartbeats 8000000 in
set_option maxRecDepth 100000 in
theorem sign_bad1 (s : ByteArray) (i : Int) (w : World) (h0 : 0 ≤ i) (hi : i < s.size) (hs : s.size ≤ 9223372036854775000) (hr : 0 ≤ bt s i) (cb : (128 ≤ bt s i ∧ bt s i < 194 ∨ 245 ≤ bt s i)) (c1 : (i + 2 < s.size ∧ 128 ≤ bt s (i + 2) ∧ bt s (i + 2) ≤ 191)) (c2 : (s.size ≤ i + 3 ∨ bt s (i + 3) < 128 ∨ 191 < bt s (i + 3))) : SignSaid s i w := by
  have hv : (sgStep s i).getD 0 = 0 := by
    rcases cb with cb | cb
    all_goals
      have hH := sgH_is (bt s i)
      repeat (first | rw [if_pos (by omega)] at hH | rw [if_neg (by omega)] at hH)
      rw [sgStep_getD, hH]
      try simp only [sgR_0, sgR_1, sgR_2, sgR_3, reduceCtorEq, if_false, if_true, show i + 1 + 1 = i + 2 by omega, show i + 2 + 1 = i + 3 by omega]
      (try repeat (first | rw [if_pos (by omega)] | rw [if_neg (by omega)]))
      all_goals first | rfl | ((repeat' split) <;> first | rfl | omega)
  unfold SignSaid
  rw [hv]
  clear hv
  go_enter Try.func93, Try.ntmps93
  go_wp2_with (first | (go_at_call 95; (with_reducible refine (in_yes _ _ _ _ _ (by omega)).mono ?_); rintro e w' ⟨rfl, ⟨nd, rfl⟩⟩) | (go_at_call 95; (with_reducible refine (in_no _ _ _ _ _ (by omega)).mono ?_); rintro e w' ⟨rfl, ⟨nd, rfl⟩⟩))
  go_ret
  exact ⟨rfl, by repeat (first | exact Drawn0.refl _ | apply Drawn0.step)⟩
set_option maxHeartbeats 8000000 in
set_option maxRecDepth 100000 in
theorem sign_bad2 (s : ByteArray) (i : Int) (w : World) (h0 : 0 ≤ i) (hi : i < s.size) (hs : s.size ≤ 9223372036854775000) (hr : 0 ≤ bt s i) (cb : (128 ≤ bt s i ∧ bt s i < 194 ∨ 245 ≤ bt s i)) (c1 : (i + 2 < s.size ∧ 128 ≤ bt s (i + 2) ∧ bt s (i + 2) ≤ 191)) (c2 : (i + 3 < s.size ∧ 128 ≤ bt s (i + 3) ∧ bt s (i + 3) ≤ 191)) : SignSaid s i w := by
  have hv : (sgStep s i).getD 0 = 0 := by
    rcases cb with cb | cb
    all_goals
      have hH := sgH_is (bt s i)
      repeat (first | rw [if_pos (by omega)] at hH | rw [if_neg (by omega)] at hH)
      rw [sgStep_getD, hH]
      try simp only [sgR_0, sgR_1, sgR_2, sgR_3, reduceCtorEq, if_false, if_true, show i + 1 + 1 = i + 2 by omega, show i + 2 + 1 = i + 3 by omega]
      (try repeat (first | rw [if_pos (by omega)] | rw [if_neg (by omega)]))
      all_goals first | rfl | ((repeat' split) <;> first | rfl | omega)
  unfold SignSaid
  rw [hv]
  clear hv
  go_enter Try.func93, Try.ntmps93
  go_wp2_with (first | (go_at_call 95; (with_reducible refine (in_yes _ _ _ _ _ (by omega)).mono ?_); rintro e w' ⟨rfl, ⟨nd, rfl⟩⟩) | (go_at_call 95; (with_reducible refine (in_no _ _ _ _ _ (by omega)).mono ?_); rintro e w' ⟨rfl, ⟨nd, rfl⟩⟩))
  go_ret
  exact ⟨rfl, by repeat (first | exact Drawn0.refl _ | apply Drawn0.step)⟩
set_option maxHeartbeats 8000000 in
set_option maxRecDepth 100000 in
theorem sign_two0 (s : ByteArray) (i : Int) (w : World) (h0 : 0 ≤ i) (hi : i < s.size) (hs : s.size ≤ 9223372036854775000) (hr : 0 ≤ bt s i) (cb : 194 ≤ bt s i ∧ bt s i < 224) (c1 : (i + 1 < s.size ∧ 128 ≤ bt s (i + 1) ∧ bt s (i + 1) ≤ 191)) : SignSaid s i w := by
  have hv : (sgStep s i).getD 0 = 2 := by
    have hH := sgH_is (bt s i)
    repeat (first | rw [if_pos (by omega)] at hH | rw [if_neg (by omega)] at hH)
    rw [sgStep_getD, hH]
    try simp only [sgR_0, sgR_1, sgR_2, sgR_3, reduceCtorEq, if_false, if_true, show i + 1 + 1 = i + 2 by omega, show i + 2 + 1 = i + 3 by omega]
    (try repeat (first | rw [if_pos (by omega)] | rw [if_neg (by omega)]))
    all_goals first | rfl | ((repeat' split) <;> first | rfl | omega)
  unfold SignSaid
  rw [hv]
  clear hv
  go_enter Try.func93, Try.ntmps93
  go_wp2_with (first | (go_at_call 95; (with_reducible refine (in_yes _ _ _ _ _ (by omega)).mono ?_); rintro e w' ⟨rfl, ⟨nd, rfl⟩⟩) | (go_at_call 95; (with_reducible refine (in_no _ _ _ _ _ (by omega)).mono ?_); rintro e w' ⟨rfl, ⟨nd, rfl⟩⟩))
  go_ret
  exact ⟨rfl, by repeat (first | exact Drawn0.refl _ | apply Drawn0.step)⟩
set_option maxHeartbeats 8000000 in
set_option maxRecDepth 100000 in
theorem sign_two1 (s : ByteArray) (i : Int) (w : World) (h0 : 0 ≤ i) (hi : i < s.size) (hs : s.size ≤ 9223372036854775000) (hr : 0 ≤ bt s i) (cb : 194 ≤ bt s i ∧ bt s i < 224) (c1 : (s.size ≤ i + 1 ∨ bt s (i + 1) < 128 ∨ 191 < bt s (i + 1))) (c2 : (s.size ≤ i + 2 ∨ bt s (i + 2) < 128 ∨ 191 < bt s (i + 2))) : SignSaid s i w := by
  have hv : (sgStep s i).getD 0 = 0 := by
    have hH := sgH_is (bt s i)
    repeat (first | rw [if_pos (by omega)] at hH | rw [if_neg (by omega)] at hH)
    rw [sgStep_getD, hH]
    try simp only [sgR_0, sgR_1, sgR_2, sgR_3, reduceCtorEq, if_false, if_true, show i + 1 + 1 = i + 2 by omega, show i + 2 + 1 = i + 3 by omega]
    (try repeat (first | rw [if_pos (by omega)] | rw [if_neg (by omega)]))
    all_goals first | rfl | ((repeat' split) <;> first | rfl | omega)
  unfold SignSaid
  rw [hv]
  clear hv
  go_enter Try.func93, Try.ntmps93
  go_wp2_with (first | (go_at_call 95; (with_reducible refine (in_yes _ _ _ _ _ (by omega)).mono ?_); rintro e w' ⟨rfl, ⟨nd, rfl⟩⟩) | (go_at_call 95; (with_reducible refine (in_no _ _ _ _ _ (by omega)).mono ?_); rintro e w' ⟨rfl, ⟨nd, rfl⟩⟩))
  go_ret
  exact ⟨rfl, by repeat (first | exact Drawn0.refl _ | apply Drawn0.step)⟩
set_option maxHeartbeats 8000000 in
set_option maxRecDepth 100000 in
theorem sign_two2 (s : ByteArray) (i : Int) (w : World) (h0 : 0 ≤ i) (hi : i < s.size) (hs : s.size ≤ 9223372036854775000) (hr : 0 ≤ bt s i) (cb : 194 ≤ bt s i ∧ bt s i < 224) (c1 : (s.size ≤ i + 1 ∨ bt s (i + 1) < 128 ∨ 191 < bt s (i + 1))) (c2 : (i + 2 < s.size ∧ 128 ≤ bt s (i + 2) ∧ bt s (i + 2) ≤ 191)) (c3 : (s.size ≤ i + 3 ∨ bt s (i + 3) < 128 ∨ 191 < bt s (i + 3))) : SignSaid s i w := by
  have hv : (sgStep s i).getD 0 = 0 := by
    have hH := sgH_is (bt s i)
    repeat (first | rw [if_pos (by omega)] at hH | rw [if_neg (by omega)] at hH)
    rw [sgStep_getD, hH]
    try simp only [sgR_0, sgR_1, sgR_2, sgR_3, reduceCtorEq, if_false, if_true, show i + 1 + 1 = i + 2 by omega, show i + 2 + 1 = i + 3 by omega]
    (try repeat (first | rw [if_pos (by omega)] | rw [if_neg (by omega)]))
    all_goals first | rfl | ((repeat' split) <;> first | rfl | omega)
  unfold SignSaid
  rw [hv]
  clear hv
  go_enter Try.func93, Try.ntmps93
  go_wp2_with (first | (go_at_call 95; (with_reducible refine (in_yes _ _ _ _ _ (by omega)).mono ?_); rintro e w' ⟨rfl, ⟨nd, rfl⟩⟩) | (go_at_call 95; (with_reducible refine (in_no _ _ _ _ _ (by omega)).mono ?_); rintro e w' ⟨rfl, ⟨nd, rfl⟩⟩))
  go_ret
  exact ⟨rfl, by repeat (first | exact Drawn0.refl _ | apply Drawn0.step)⟩
set_option maxHeartbeats 8000000 in
set_option maxRecDepth 100000 in
theorem sign_two3 (s : ByteArray) (i : Int) (w : World) (h0 : 0 ≤ i) (hi : i < s.size) (hs : s.size ≤ 9223372036854775000) (hr : 0 ≤ bt s i) (cb : 194 ≤ bt s i ∧ bt s i < 224) (c1 : (s.size ≤ i + 1 ∨ bt s (i + 1) < 128 ∨ 191 < bt s (i + 1))) (c2 : (i + 2 < s.size ∧ 128 ≤ bt s (i + 2) ∧ bt s (i + 2) ≤ 191)) (c3 : (i + 3 < s.size ∧ 128 ≤ bt s (i + 3) ∧ bt s (i + 3) ≤ 191)) : SignSaid s i w := by
  have hv : (sgStep s i).getD 0 = 0 := by
    have hH := sgH_is (bt s i)
    repeat (first | rw [if_pos (by omega)] at hH | rw [if_neg (by omega)] at hH)
    rw [sgStep_getD, hH]
    try simp only [sgR_0, sgR_1, sgR_2, sgR_3, reduceCtorEq, if_false, if_true, show i + 1 + 1 = i + 2 by omega, show i + 2 + 1 = i + 3 by omega]
    (try repeat (first | rw [if_pos (by omega)] | rw [if_neg (by omega)]))
    all_goals first | rfl | ((repeat' split) <;> first | rfl | omega)
  unfold SignSaid
  rw [hv]
  clear hv
  go_enter Try.func93, Try.ntmps93
  go_wp2_with (first | (go_at_call 95; (with_reducible refine (in_yes _ _ _ _ _ (by omega)).mono ?_); rintro e w' ⟨rfl, ⟨nd, rfl⟩⟩) | (go_at_call 95; (with_reducible refine (in_no _ _ _ _ _ (by omega)).mono ?_); rintro e w' ⟨rfl, ⟨nd, rfl⟩⟩))
  go_ret
  exact ⟨rfl, by repeat (first | exact Drawn0.refl _ | apply Drawn0.step)⟩
set_option maxHeartbeats 8000000 in
set_option maxRecDepth 100000 in
theorem sign_e00 (s : ByteArray) (i : Int) (w : World) (h0 : 0 ≤ i) (hi : i < s.size) (hs : s.size ≤ 9223372036854775000) (hr : 0 ≤ bt s i) (cb : bt s i = 224) (c1 : (s.size ≤ i + 2 ∨ bt s (i + 2) < 128 ∨ 191 < bt s (i + 2))) : SignSaid s i w := by
  have hv : (sgStep s i).getD 0 = 0 := by
    have hH := sgH_is (bt s i)
    repeat (first | rw [if_pos (by omega)] at hH | rw [if_neg (by omega)] at hH)
    rw [sgStep_getD, hH]
    try simp only [sgR_0, sgR_1, sgR_2, sgR_3, reduceCtorEq, if_false, if_true, show i + 1 + 1 = i + 2 by omega, show i + 2 + 1 = i + 3 by omega]
    (try repeat (first | rw [if_pos (by omega)] | rw [if_neg (by omega)]))
    all_goals first | rfl | ((repeat' split) <;> first | rfl | omega)
  unfold SignSaid
  rw [hv]
  clear hv
  go_enter Try.func93, Try.ntmps93
  go_wp2_with (first | (go_at_call 95; (with_reducible refine (in_yes _ _ _ _ _ (by omega)).mono ?_); rintro e w' ⟨rfl, ⟨nd, rfl⟩⟩) | (go_at_call 95; (with_reducible refine (in_no _ _ _ _ _ (by omega)).mono ?_); rintro e w' ⟨rfl, ⟨nd, rfl⟩⟩))
  go_ret
  exact ⟨rfl, by repeat (first | exact Drawn0.refl _ | apply Drawn0.step)⟩
set_option maxHeartbeats 8000000 in
set_option maxRecDepth 100000 in
theorem sign_e01 (s : ByteArray) (i : Int) (w : World) (h0 : 0 ≤ i) (hi : i < s.size) (hs : s.size ≤ 9223372036854775000) (hr : 0 ≤ bt s i) (cb : bt s i = 224) (c1 : (i + 2 < s.size ∧ 128 ≤ bt s (i + 2) ∧ bt s (i + 2) ≤ 191)) (c2 : (i + 1 < s.size ∧ 160 ≤ bt s (i + 1) ∧ bt s (i + 1) ≤ 191)) : SignSaid s i w := by
  have hv : (sgStep s i).getD 0 = 3 := by
    have hH := sgH_is (bt s i)
    repeat (first | rw [if_pos (by omega)] at hH | rw [if_neg (by omega)] at hH)
    rw [sgStep_getD, hH]
    try simp only [sgR_0, sgR_1, sgR_2, sgR_3, reduceCtorEq, if_false, if_true, show i + 1 + 1 = i + 2 by omega, show i + 2 + 1 = i + 3 by omega]
    (try repeat (first | rw [if_pos (by omega)] | rw [if_neg (by omega)]))
    all_goals first | rfl | ((repeat' split) <;> first | rfl | omega)
  unfold SignSaid
  rw [hv]
  clear hv
  go_enter Try.func93, Try.ntmps93
  go_wp2_with (first | (go_at_call 95; (with_reducible refine (in_yes _ _ _ _ _ (by omega)).mono ?_); rintro e w' ⟨rfl, ⟨nd, rfl⟩⟩) | (go_at_call 95; (with_reducible refine (in_no _ _ _ _ _ (by omega)).mono ?_); rintro e w' ⟨rfl, ⟨nd, rfl⟩⟩))
  go_ret
  exact ⟨rfl, by repeat (first | exact Drawn0.refl _ | apply Drawn0.step)⟩
set_option maxHeartbeats 8000000 in
set_option maxRecDepth 100000 in
theorem sign_e02 (s : ByteArray) (i : Int) (w : World) (h0 : 0 ≤ i) (hi : i < s.size) (hs : s.size ≤ 9223372036854775000) (hr : 0 ≤ bt s i) (cb : bt s i = 224) (c1 : (i + 2 < s.size ∧ 128 ≤ bt s (i + 2) ∧ bt s (i + 2) ≤ 191)) (c2 : (s.size ≤ i + 1 ∨ bt s (i + 1) < 160 ∨ 191 < bt s (i + 1))) (c3 : (s.size ≤ i + 3 ∨ bt s (i + 3) < 128 ∨ 191 < bt s (i + 3))) : SignSaid s i w := by
  have hv : (sgStep s i).getD 0 = 0 := by
    have hH := sgH_is (bt s i)
    repeat (first | rw [if_pos (by omega)] at hH | rw [if_neg (by omega)] at hH)
    rw [sgStep_getD, hH]
    try simp only [sgR_0, sgR_1, sgR_2, sgR_3, reduceCtorEq, if_false, if_true, show i + 1 + 1 = i + 2 by omega, show i + 2 + 1 = i + 3 by omega]
    (try repeat (first | rw [if_pos (by omega)] | rw [if_neg (by omega)]))
    all_goals first | rfl | ((repeat' split) <;> first | rfl | omega)
  unfold SignSaid
  rw [hv]
  clear hv
  go_enter Try.func93, Try.ntmps93
  go_wp2_with (first | (go_at_call 95; (with_reducible refine (in_yes _ _ _ _ _ (by omega)).mono ?_); rintro e w' ⟨rfl, ⟨nd, rfl⟩⟩) | (go_at_call 95; (with_reducible refine (in_no _ _ _ _ _ (by omega)).mono ?_); rintro e w' ⟨rfl, ⟨nd, rfl⟩⟩))
  go_ret
  exact ⟨rfl, by repeat (first | exact Drawn0.refl _ | apply Drawn0.step)⟩
set_option maxHeartbeats 8000000 in
set_option maxRecDepth 100000 in
theorem sign_e03 (s : ByteArray) (i : Int) (w : World) (h0 : 0 ≤ i) (hi : i < s.size) (hs : s.size ≤ 9223372036854775000) (hr : 0 ≤ bt s i) (cb : bt s i = 224) (c1 : (i + 2 < s.size ∧ 128 ≤ bt s (i + 2) ∧ bt s (i + 2) ≤ 191)) (c2 : (s.size ≤ i + 1 ∨ bt s (i + 1) < 160 ∨ 191 < bt s (i + 1))) (c3 : (i + 3 < s.size ∧ 128 ≤ bt s (i + 3) ∧ bt s (i + 3) ≤ 191)) : SignSaid s i w := by
  have hv : (sgStep s i).getD 0 = 0 := by
    have hH := sgH_is (bt s i)
    repeat (first | rw [if_pos (by omega)] at hH | rw [if_neg (by omega)] at hH)
    rw [sgStep_getD, hH]
    try simp only [sgR_0, sgR_1, sgR_2, sgR_3, reduceCtorEq, if_false, if_true, show i + 1 + 1 = i + 2 by omega, show i + 2 + 1 = i + 3 by omega]
    (try repeat (first | rw [if_pos (by omega)] | rw [if_neg (by omega)]))
    all_goals first | rfl | ((repeat' split) <;> first | rfl | omega)
  unfold SignSaid
  rw [hv]
  clear hv
  go_enter Try.func93, Try.ntmps93
  go_wp2_with (first | (go_at_call 95; (with_reducible refine (in_yes _ _ _ _ _ (by omega)).mono ?_); rintro e w' ⟨rfl, ⟨nd, rfl⟩⟩) | (go_at_call 95; (with_reducible refine (in_no _ _ _ _ _ (by omega)).mono ?_); rintro e w' ⟨rfl, ⟨nd, rfl⟩⟩))
  go_ret
  exact ⟨rfl, by repeat (first | exact Drawn0.refl _ | apply Drawn0.step)⟩
set_option maxHeartbeats 8000000 in
set_option maxRecDepth 100000 in
theorem sign_e10 (s : ByteArray) (i : Int) (w : World) (h0 : 0 ≤ i) (hi : i < s.size) (hs : s.size ≤ 9223372036854775000) (hr : 0 ≤ bt s i) (cb : 225 ≤ bt s i ∧ bt s i < 237) (c1 : (s.size ≤ i + 2 ∨ bt s (i + 2) < 128 ∨ 191 < bt s (i + 2))) : SignSaid s i w := by
  have hv : (sgStep s i).getD 0 = 0 := by
    have hH := sgH_is (bt s i)
    repeat (first | rw [if_pos (by omega)] at hH | rw [if_neg (by omega)] at hH)
    rw [sgStep_getD, hH]
    try simp only [sgR_0, sgR_1, sgR_2, sgR_3, reduceCtorEq, if_false, if_true, show i + 1 + 1 = i + 2 by omega, show i + 2 + 1 = i + 3 by omega]
    (try repeat (first | rw [if_pos (by omega)] | rw [if_neg (by omega)]))
    all_goals first | rfl | ((repeat' split) <;> first | rfl | omega)
  unfold SignSaid
  rw [hv]
  clear hv
  go_enter Try.func93, Try.ntmps93
  go_wp2_with (first | (go_at_call 95; (with_reducible refine (in_yes _ _ _ _ _ (by omega)).mono ?_); rintro e w' ⟨rfl, ⟨nd, rfl⟩⟩) | (go_at_call 95; (with_reducible refine (in_no _ _ _ _ _ (by omega)).mono ?_); rintro e w' ⟨rfl, ⟨nd, rfl⟩⟩))
  go_ret
  exact ⟨rfl, by repeat (first | exact Drawn0.refl _ | apply Drawn0.step)⟩
set_option maxHeartbeats 8000000 in
set_option maxRecDepth 100000 in
theorem sign_e11 (s : ByteArray) (i : Int) (w : World) (h0 : 0 ≤ i) (hi : i < s.size) (hs : s.size ≤ 9223372036854775000) (hr : 0 ≤ bt s i) (cb : 225 ≤ bt s i ∧ bt s i < 237) (c1 : (i + 2 < s.size ∧ 128 ≤ bt s (i + 2) ∧ bt s (i + 2) ≤ 191)) (c2 : (i + 1 < s.size ∧ 128 ≤ bt s (i + 1) ∧ bt s (i + 1) ≤ 191)) : SignSaid s i w := by
  have hv : (sgStep s i).getD 0 = 3 := by
    have hH := sgH_is (bt s i)
    repeat (first | rw [if_pos (by omega)] at hH | rw [if_neg (by omega)] at hH)
    rw [sgStep_getD, hH]
    try simp only [sgR_0, sgR_1, sgR_2, sgR_3, reduceCtorEq, if_false, if_true, show i + 1 + 1 = i + 2 by omega, show i + 2 + 1 = i + 3 by omega]
    (try repeat (first | rw [if_pos (by omega)] | rw [if_neg (by omega)]))
    all_goals first | rfl | ((repeat' split) <;> first | rfl | omega)
  unfold SignSaid
  rw [hv]
  clear hv
  go_enter Try.func93, Try.ntmps93
  go_wp2_with (first | (go_at_call 95; (with_reducible refine (in_yes _ _ _ _ _ (by omega)).mono ?_); rintro e w' ⟨rfl, ⟨nd, rfl⟩⟩) | (go_at_call 95; (with_reducible refine (in_no _ _ _ _ _ (by omega)).mono ?_); rintro e w' ⟨rfl, ⟨nd, rfl⟩⟩))
  go_ret
  exact ⟨rfl, by repeat (first | exact Drawn0.refl _ | apply Drawn0.step)⟩
set_option maxHeartbeats 8000000 in
set_option maxRecDepth 100000 in
theorem sign_e12 (s : ByteArray) (i : Int) (w : World) (h0 : 0 ≤ i) (hi : i < s.size) (hs : s.size ≤ 9223372036854775000) (hr : 0 ≤ bt s i) (cb : 225 ≤ bt s i ∧ bt s i < 237) (c1 : (i + 2 < s.size ∧ 128 ≤ bt s (i + 2) ∧ bt s (i + 2) ≤ 191)) (c2 : (s.size ≤ i + 1 ∨ bt s (i + 1) < 128 ∨ 191 < bt s (i + 1))) (c3 : (s.size ≤ i + 3 ∨ bt s (i + 3) < 128 ∨ 191 < bt s (i + 3))) : SignSaid s i w := by
  have hv : (sgStep s i).getD 0 = 0 := by
    have hH := sgH_is (bt s i)
    repeat (first | rw [if_pos (by omega)] at hH | rw [if_neg (by omega)] at hH)
    rw [sgStep_getD, hH]
    try simp only [sgR_0, sgR_1, sgR_2, sgR_3, reduceCtorEq, if_false, if_true, show i + 1 + 1 = i + 2 by omega, show i + 2 + 1 = i + 3 by omega]
    (try repeat (first | rw [if_pos (by omega)] | rw [if_neg (by omega)]))
    all_goals first | rfl | ((repeat' split) <;> first | rfl | omega)
  unfold SignSaid
  rw [hv]
  clear hv
  go_enter Try.func93, Try.ntmps93
  go_wp2_with (first | (go_at_call 95; (with_reducible refine (in_yes _ _ _ _ _ (by omega)).mono ?_); rintro e w' ⟨rfl, ⟨nd, rfl⟩⟩) | (go_at_call 95; (with_reducible refine (in_no _ _ _ _ _ (by omega)).mono ?_); rintro e w' ⟨rfl, ⟨nd, rfl⟩⟩))
  go_ret
  exact ⟨rfl, by repeat (first | exact Drawn0.refl _ | apply Drawn0.step)⟩
set_option maxHeartbeats 8000000 in
set_option maxRecDepth 100000 in
theorem sign_e13 (s : ByteArray) (i : Int) (w : World) (h0 : 0 ≤ i) (hi : i < s.size) (hs : s.size ≤ 9223372036854775000) (hr : 0 ≤ bt s i) (cb : 225 ≤ bt s i ∧ bt s i < 237) (c1 : (i + 2 < s.size ∧ 128 ≤ bt s (i + 2) ∧ bt s (i + 2) ≤ 191)) (c2 : (s.size ≤ i + 1 ∨ bt s (i + 1) < 128 ∨ 191 < bt s (i + 1))) (c3 : (i + 3 < s.size ∧ 128 ≤ bt s (i + 3) ∧ bt s (i + 3) ≤ 191)) : SignSaid s i w := by
  have hv : (sgStep s i).getD 0 = 0 := by
    have hH := sgH_is (bt s i)
    repeat (first | rw [if_pos (by omega)] at hH | rw [if_neg (by omega)] at hH)
    rw [sgStep_getD, hH]
    try simp only [sgR_0, sgR_1, sgR_2, sgR_3, reduceCtorEq, if_false, if_true, show i + 1 + 1 = i + 2 by omega, show i + 2 + 1 = i + 3 by omega]
    (try repeat (first | rw [if_pos (by omega)] | rw [if_neg (by omega)]))
    all_goals first | rfl | ((repeat' split) <;> first | rfl | omega)
  unfold SignSaid
  rw [hv]
  clear hv
  go_enter Try.func93, Try.ntmps93
  go_wp2_with (first | (go_at_call 95; (with_reducible refine (in_yes _ _ _ _ _ (by omega)).mono ?_); rintro e w' ⟨rfl, ⟨nd, rfl⟩⟩) | (go_at_call 95; (with_reducible refine (in_no _ _ _ _ _ (by omega)).mono ?_); rintro e w' ⟨rfl, ⟨nd, rfl⟩⟩))
  go_ret
  exact ⟨rfl, by repeat (first | exact Drawn0.refl _ | apply Drawn0.step)⟩
set_option maxHeartbeats 8000000 in
set_option maxRecDepth 100000 in
theorem sign_ed0 (s : ByteArray) (i : Int) (w : World) (h0 : 0 ≤ i) (hi : i < s.size) (hs : s.size ≤ 9223372036854775000) (hr : 0 ≤ bt s i) (cb : bt s i = 237) (c1 : (s.size ≤ i + 2 ∨ bt s (i + 2) < 128 ∨ 191 < bt s (i + 2))) : SignSaid s i w := by
  have hv : (sgStep s i).getD 0 = 0 := by
    have hH := sgH_is (bt s i)
    repeat (first | rw [if_pos (by omega)] at hH | rw [if_neg (by omega)] at hH)
    rw [sgStep_getD, hH]
    try simp only [sgR_0, sgR_1, sgR_2, sgR_3, reduceCtorEq, if_false, if_true, show i + 1 + 1 = i + 2 by omega, show i + 2 + 1 = i + 3 by omega]
    (try repeat (first | rw [if_pos (by omega)] | rw [if_neg (by omega)]))
    all_goals first | rfl | ((repeat' split) <;> first | rfl | omega)
  unfold SignSaid
  rw [hv]
  clear hv
  go_enter Try.func93, Try.ntmps93
  go_wp2_with (first | (go_at_call 95; (with_reducible refine (in_yes _ _ _ _ _ (by omega)).mono ?_); rintro e w' ⟨rfl, ⟨nd, rfl⟩⟩) | (go_at_call 95; (with_reducible refine (in_no _ _ _ _ _ (by omega)).mono ?_); rintro e w' ⟨rfl, ⟨nd, rfl⟩⟩))
  go_ret
  exact ⟨rfl, by repeat (first | exact Drawn0.refl _ | apply Drawn0.step)⟩
set_option maxHeartbeats 8000000 in
set_option maxRecDepth 100000 in
theorem sign_ed1 (s : ByteArray) (i : Int) (w : World) (h0 : 0 ≤ i) (hi : i < s.size) (hs : s.size ≤ 9223372036854775000) (hr : 0 ≤ bt s i) (cb : bt s i = 237) (c1 : (i + 2 < s.size ∧ 128 ≤ bt s (i + 2) ∧ bt s (i + 2) ≤ 191)) (c2 : (i + 1 < s.size ∧ 128 ≤ bt s (i + 1) ∧ bt s (i + 1) ≤ 159)) : SignSaid s i w := by
  have hv : (sgStep s i).getD 0 = 3 := by
    have hH := sgH_is (bt s i)
    repeat (first | rw [if_pos (by omega)] at hH | rw [if_neg (by omega)] at hH)
    rw [sgStep_getD, hH]
    try simp only [sgR_0, sgR_1, sgR_2, sgR_3, reduceCtorEq, if_false, if_true, show i + 1 + 1 = i + 2 by omega, show i + 2 + 1 = i + 3 by omega]
    (try repeat (first | rw [if_pos (by omega)] | rw [if_neg (by omega)]))
    all_goals first | rfl | ((repeat' split) <;> first | rfl | omega)
  unfold SignSaid
  rw [hv]
  clear hv
  go_enter Try.func93, Try.ntmps93
  go_wp2_with (first | (go_at_call 95; (with_reducible refine (in_yes _ _ _ _ _ (by omega)).mono ?_); rintro e w' ⟨rfl, ⟨nd, rfl⟩⟩) | (go_at_call 95; (with_reducible refine (in_no _ _ _ _ _ (by omega)).mono ?_); rintro e w' ⟨rfl, ⟨nd, rfl⟩⟩))
  go_ret
  exact ⟨rfl, by repeat (first | exact Drawn0.refl _ | apply Drawn0.step)⟩
set_option maxHeartbeats 8000000 in
set_option maxRecDepth 100000 in
theorem sign_ed2 (s : ByteArray) (i : Int) (w : World) (h0 : 0 ≤ i) (hi : i < s.size) (hs : s.size ≤ 9223372036854775000) (hr : 0 ≤ bt s i) (cb : bt s i = 237) (c1 : (i + 2 < s.size ∧ 128 ≤ bt s (i + 2) ∧ bt s (i + 2) ≤ 191)) (c2 : (s.size ≤ i + 1 ∨ bt s (i + 1) < 128 ∨ 159 < bt s (i + 1))) (c3 : (s.size ≤ i + 3 ∨ bt s (i + 3) < 128 ∨ 191 < bt s (i + 3))) : SignSaid s i w := by
  have hv : (sgStep s i).getD 0 = 0 := by
    have hH := sgH_is (bt s i)
    repeat (first | rw [if_pos (by omega)] at hH | rw [if_neg (by omega)] at hH)
    rw [sgStep_getD, hH]
    try simp only [sgR_0, sgR_1, sgR_2, sgR_3, reduceCtorEq, if_false, if_true, show i + 1 + 1 = i + 2 by omega, show i + 2 + 1 = i + 3 by omega]
    (try repeat (first | rw [if_pos (by omega)] | rw [if_neg (by omega)]))
    all_goals first | rfl | ((repeat' split) <;> first | rfl | omega)
  unfold SignSaid
  rw [hv]
  clear hv
  go_enter Try.func93, Try.ntmps93
  go_wp2_with (first | (go_at_call 95; (with_reducible refine (in_yes _ _ _ _ _ (by omega)).mono ?_); rintro e w' ⟨rfl, ⟨nd, rfl⟩⟩) | (go_at_call 95; (with_reducible refine (in_no _ _ _ _ _ (by omega)).mono ?_); rintro e w' ⟨rfl, ⟨nd, rfl⟩⟩))
  go_ret
  exact ⟨rfl, by repeat (first | exact Drawn0.refl _ | apply Drawn0.step)⟩
set_option maxHeartbeats 8000000 in
set_option maxRecDepth 100000 in
theorem sign_ed3 (s : ByteArray) (i : Int) (w : World) (h0 : 0 ≤ i) (hi : i < s.size) (hs : s.size ≤ 9223372036854775000) (hr : 0 ≤ bt s i) (cb : bt s i = 237) (c1 : (i + 2 < s.size ∧ 128 ≤ bt s (i + 2) ∧ bt s (i + 2) ≤ 191)) (c2 : (s.size ≤ i + 1 ∨ bt s (i + 1) < 128 ∨ 159 < bt s (i + 1))) (c3 : (i + 3 < s.size ∧ 128 ≤ bt s (i + 3) ∧ bt s (i + 3) ≤ 191)) : SignSaid s i w := by
  have hv : (sgStep s i).getD 0 = 0 := by
    have hH := sgH_is (bt s i)
    repeat (first | rw [if_pos (by omega)] at hH | rw [if_neg (by omega)] at hH)
    rw [sgStep_getD, hH]
    try simp only [sgR_0, sgR_1, sgR_2, sgR_3, reduceCtorEq, if_false, if_true, show i + 1 + 1 = i + 2 by omega, show i + 2 + 1 = i + 3 by omega]
    (try repeat (first | rw [if_pos (by omega)] | rw [if_neg (by omega)]))
    all_goals first | rfl | ((repeat' split) <;> first | rfl | omega)
  unfold SignSaid
  rw [hv]
  clear hv
  go_enter Try.func93, Try.ntmps93
  go_wp2_with (first | (go_at_call 95; (with_reducible refine (in_yes _ _ _ _ _ (by omega)).mono ?_); rintro e w' ⟨rfl, ⟨nd, rfl⟩⟩) | (go_at_call 95; (with_reducible refine (in_no _ _ _ _ _ (by omega)).mono ?_); rintro e w' ⟨rfl, ⟨nd, rfl⟩⟩))
  go_ret
  exact ⟨rfl, by repeat (first | exact Drawn0.refl _ | apply Drawn0.step)⟩
set_option maxHeartbeats 8000000 in
set_option maxRecDepth 100000 in
theorem sign_ee0 (s : ByteArray) (i : Int) (w : World) (h0 : 0 ≤ i) (hi : i < s.size) (hs : s.size ≤ 9223372036854775000) (hr : 0 ≤ bt s i) (cb : 238 ≤ bt s i ∧ bt s i < 240) (c1 : (s.size ≤ i + 2 ∨ bt s (i + 2) < 128 ∨ 191 < bt s (i + 2))) : SignSaid s i w := by
  have hv : (sgStep s i).getD 0 = 0 := by
    have hH := sgH_is (bt s i)
    repeat (first | rw [if_pos (by omega)] at hH | rw [if_neg (by omega)] at hH)
    rw [sgStep_getD, hH]
    try simp only [sgR_0, sgR_1, sgR_2, sgR_3, reduceCtorEq, if_false, if_true, show i + 1 + 1 = i + 2 by omega, show i + 2 + 1 = i + 3 by omega]
    (try repeat (first | rw [if_pos (by omega)] | rw [if_neg (by omega)]))
    all_goals first | rfl | ((repeat' split) <;> first | rfl | omega)
  unfold SignSaid
  rw [hv]
  clear hv
  go_enter Try.func93, Try.ntmps93
  go_wp2_with (first | (go_at_call 95; (with_reducible refine (in_yes _ _ _ _ _ (by omega)).mono ?_); rintro e w' ⟨rfl, ⟨nd, rfl⟩⟩) | (go_at_call 95; (with_reducible refine (in_no _ _ _ _ _ (by omega)).mono ?_); rintro e w' ⟨rfl, ⟨nd, rfl⟩⟩))
  go_ret
  exact ⟨rfl, by repeat (first | exact Drawn0.refl _ | apply Drawn0.step)⟩
set_option maxHeartbeats 8000000 in
set_option maxRecDepth 100000 in
theorem sign_ee1 (s : ByteArray) (i : Int) (w : World) (h0 : 0 ≤ i) (hi : i < s.size) (hs : s.size ≤ 9223372036854775000) (hr : 0 ≤ bt s i) (cb : 238 ≤ bt s i ∧ bt s i < 240) (c1 : (i + 2 < s.size ∧ 128 ≤ bt s (i + 2) ∧ bt s (i + 2) ≤ 191)) (c2 : (i + 1 < s.size ∧ 128 ≤ bt s (i + 1) ∧ bt s (i + 1) ≤ 191)) : SignSaid s i w := by
  have hv : (sgStep s i).getD 0 = 3 := by
    have hH := sgH_is (bt s i)
    repeat (first | rw [if_pos (by omega)] at hH | rw [if_neg (by omega)] at hH)
    rw [sgStep_getD, hH]
    try simp only [sgR_0, sgR_1, sgR_2, sgR_3, reduceCtorEq, if_false, if_true, show i + 1 + 1 = i + 2 by omega, show i + 2 + 1 = i + 3 by omega]
    (try repeat (first | rw [if_pos (by omega)] | rw [if_neg (by omega)]))
    all_goals first | rfl | ((repeat' split) <;> first | rfl | omega)
  unfold SignSaid
  rw [hv]
  clear hv
  go_enter Try.func93, Try.ntmps93
  go_wp2_with (first | (go_at_call 95; (with_reducible refine (in_yes _ _ _ _ _ (by omega)).mono ?_); rintro e w' ⟨rfl, ⟨nd, rfl⟩⟩) | (go_at_call 95; (with_reducible refine (in_no _ _ _ _ _ (by omega)).mono ?_); rintro e w' ⟨rfl, ⟨nd, rfl⟩⟩))
  go_ret
  exact ⟨rfl, by repeat (first | exact Drawn0.refl _ | apply Drawn0.step)⟩
set_option maxHeartbeats 8000000 in
set_option maxRecDepth 100000 in
theorem sign_ee2 (s : ByteArray) (i : Int) (w : World) (h0 : 0 ≤ i) (hi : i < s.size) (hs : s.size ≤ 9223372036854775000) (hr : 0 ≤ bt s i) (cb : 238 ≤ bt s i ∧ bt s i < 240) (c1 : (i + 2 < s.size ∧ 128 ≤ bt s (i + 2) ∧ bt s (i + 2) ≤ 191)) (c2 : (s.size ≤ i + 1 ∨ bt s (i + 1) < 128 ∨ 191 < bt s (i + 1))) (c3 : (s.size ≤ i + 3 ∨ bt s (i + 3) < 128 ∨ 191 < bt s (i + 3))) : SignSaid s i w := by
  have hv : (sgStep s i).getD 0 = 0 := by
    have hH := sgH_is (bt s i)
    repeat (first | rw [if_pos (by omega)] at hH | rw [if_neg (by omega)] at hH)
    rw [sgStep_getD, hH]
    try simp only [sgR_0, sgR_1, sgR_2, sgR_3, reduceCtorEq, if_false, if_true, show i + 1 + 1 = i + 2 by omega, show i + 2 + 1 = i + 3 by omega]
    (try repeat (first | rw [if_pos (by omega)] | rw [if_neg (by omega)]))
    all_goals first | rfl | ((repeat' split) <;> first | rfl | omega)
  unfold SignSaid
  rw [hv]
  clear hv
  go_enter Try.func93, Try.ntmps93
  go_wp2_with (first | (go_at_call 95; (with_reducible refine (in_yes _ _ _ _ _ (by omega)).mono ?_); rintro e w' ⟨rfl, ⟨nd, rfl⟩⟩) | (go_at_call 95; (with_reducible refine (in_no _ _ _ _ _ (by omega)).mono ?_); rintro e w' ⟨rfl, ⟨nd, rfl⟩⟩))
  go_ret
  exact ⟨rfl, by repeat (first | exact Drawn0.refl _ | apply Drawn0.step)⟩
set_option maxHeartbeats 8000000 in
set_option maxRecDepth 100000 in
theorem sign_ee3 (s : ByteArray) (i : Int) (w : World) (h0 : 0 ≤ i) (hi : i < s.size) (hs : s.size ≤ 9223372036854775000) (hr : 0 ≤ bt s i) (cb : 238 ≤ bt s i ∧ bt s i < 240) (c1 : (i + 2 < s.size ∧ 128 ≤ bt s (i + 2) ∧ bt s (i + 2) ≤ 191)) (c2 : (s.size ≤ i + 1 ∨ bt s (i + 1) < 128 ∨ 191 < bt s (i + 1))) (c3 : (i + 3 < s.size ∧ 128 ≤ bt s (i + 3) ∧ bt s (i + 3) ≤ 191)) : SignSaid s i w := by
  have hv : (sgStep s i).getD 0 = 0 := by
    have hH := sgH_is (bt s i)
    repeat (first | rw [if_pos (by omega)] at hH | rw [if_neg (by omega)] at hH)
    rw [sgStep_getD, hH]
    try simp only [sgR_0, sgR_1, sgR_2, sgR_3, reduceCtorEq, if_false, if_true, show i + 1 + 1 = i + 2 by omega, show i + 2 + 1 = i + 3 by omega]
    (try repeat (first | rw [if_pos (by omega)] | rw [if_neg (by omega)]))
    all_goals first | rfl | ((repeat' split) <;> first | rfl | omega)
  unfold SignSaid
  rw [hv]
  clear hv
  go_enter Try.func93, Try.ntmps93
  go_wp2_with (first | (go_at_call 95; (with_reducible refine (in_yes _ _ _ _ _ (by omega)).mono ?_); rintro e w' ⟨rfl, ⟨nd, rfl⟩⟩) | (go_at_call 95; (with_reducible refine (in_no _ _ _ _ _ (by omega)).mono ?_); rintro e w' ⟨rfl, ⟨nd, rfl⟩⟩))
  go_ret
  exact ⟨rfl, by repeat (first | exact Drawn0.refl _ | apply Drawn0.step)⟩
set_option maxHeartbeats 8000000 in
set_option maxRecDepth 100000 in
theorem sign_f00 (s : ByteArray) (i : Int) (w : World) (h0 : 0 ≤ i) (hi : i < s.size) (hs : s.size ≤ 9223372036854775000) (hr : 0 ≤ bt s i) (cb : bt s i = 240) (c1 : (s.size ≤ i + 2 ∨ bt s (i + 2) < 128 ∨ 191 < bt s (i + 2))) : SignSaid s i w := by
  have hv : (sgStep s i).getD 0 = 0 := by
    have hH := sgH_is (bt s i)
    repeat (first | rw [if_pos (by omega)] at hH | rw [if_neg (by omega)] at hH)
    rw [sgStep_getD, hH]
    try simp only [sgR_0, sgR_1, sgR_2, sgR_3, reduceCtorEq, if_false, if_true, show i + 1 + 1 = i + 2 by omega, show i + 2 + 1 = i + 3 by omega]
    (try repeat (first | rw [if_pos (by omega)] | rw [if_neg (by omega)]))
    all_goals first | rfl | ((repeat' split) <;> first | rfl | omega)
  unfold SignSaid
  rw [hv]
  clear hv
  go_enter Try.func93, Try.ntmps93
  go_wp2_with (first | (go_at_call 95; (with_reducible refine (in_yes _ _ _ _ _ (by omega)).mono ?_); rintro e w' ⟨rfl, ⟨nd, rfl⟩⟩) | (go_at_call 95; (with_reducible refine (in_no _ _ _ _ _ (by omega)).mono ?_); rintro e w' ⟨rfl, ⟨nd, rfl⟩⟩))
  go_ret
  exact ⟨rfl, by repeat (first | exact Drawn0.refl _ | apply Drawn0.step)⟩
set_option maxHeartbeats 8000000 in
set_option maxRecDepth 100000 in
theorem sign_f01 (s : ByteArray) (i : Int) (w : World) (h0 : 0 ≤ i) (hi : i < s.size) (hs : s.size ≤ 9223372036854775000) (hr : 0 ≤ bt s i) (cb : bt s i = 240) (c1 : (i + 2 < s.size ∧ 128 ≤ bt s (i + 2) ∧ bt s (i + 2) ≤ 191)) (c2 : (s.size ≤ i + 3 ∨ bt s (i + 3) < 128 ∨ 191 < bt s (i + 3))) : SignSaid s i w := by
  have hv : (sgStep s i).getD 0 = 0 := by
    have hH := sgH_is (bt s i)
    repeat (first | rw [if_pos (by omega)] at hH | rw [if_neg (by omega)] at hH)
    rw [sgStep_getD, hH]
    try simp only [sgR_0, sgR_1, sgR_2, sgR_3, reduceCtorEq, if_false, if_true, show i + 1 + 1 = i + 2 by omega, show i + 2 + 1 = i + 3 by omega]
    (try repeat (first | rw [if_pos (by omega)] | rw [if_neg (by omega)]))
    all_goals first | rfl | ((repeat' split) <;> first | rfl | omega)
  unfold SignSaid
  rw [hv]
  clear hv
  go_enter Try.func93, Try.ntmps93
  go_wp2_with (first | (go_at_call 95; (with_reducible refine (in_yes _ _ _ _ _ (by omega)).mono ?_); rintro e w' ⟨rfl, ⟨nd, rfl⟩⟩) | (go_at_call 95; (with_reducible refine (in_no _ _ _ _ _ (by omega)).mono ?_); rintro e w' ⟨rfl, ⟨nd, rfl⟩⟩))
  go_ret
  exact ⟨rfl, by repeat (first | exact Drawn0.refl _ | apply Drawn0.step)⟩
set_option maxHeartbeats 8000000 in
set_option maxRecDepth 100000 in
theorem sign_f02 (s : ByteArray) (i : Int) (w : World) (h0 : 0 ≤ i) (hi : i < s.size) (hs : s.size ≤ 9223372036854775000) (hr : 0 ≤ bt s i) (cb : bt s i = 240) (c1 : (i + 2 < s.size ∧ 128 ≤ bt s (i + 2) ∧ bt s (i + 2) ≤ 191)) (c2 : (i + 3 < s.size ∧ 128 ≤ bt s (i + 3) ∧ bt s (i + 3) ≤ 191)) (c3 : (i + 1 < s.size ∧ 144 ≤ bt s (i + 1) ∧ bt s (i + 1) ≤ 191)) : SignSaid s i w := by
  have hv : (sgStep s i).getD 0 = 4 := by
    have hH := sgH_is (bt s i)
    repeat (first | rw [if_pos (by omega)] at hH | rw [if_neg (by omega)] at hH)
    rw [sgStep_getD, hH]
    try simp only [sgR_0, sgR_1, sgR_2, sgR_3, reduceCtorEq, if_false, if_true, show i + 1 + 1 = i + 2 by omega, show i + 2 + 1 = i + 3 by omega]
    (try repeat (first | rw [if_pos (by omega)] | rw [if_neg (by omega)]))
    all_goals first | rfl | ((repeat' split) <;> first | rfl | omega)
  unfold SignSaid
  rw [hv]
  clear hv
  go_enter Try.func93, Try.ntmps93
  go_wp2_with (first | (go_at_call 95; (with_reducible refine (in_yes _ _ _ _ _ (by omega)).mono ?_); rintro e w' ⟨rfl, ⟨nd, rfl⟩⟩) | (go_at_call 95; (with_reducible refine (in_no _ _ _ _ _ (by omega)).mono ?_); rintro e w' ⟨rfl, ⟨nd, rfl⟩⟩))
  go_ret
  exact ⟨rfl, by repeat (first | exact Drawn0.refl _ | apply Drawn0.step)⟩
set_option maxHeartbeats 8000000 in
set_option maxRecDepth 100000 in
theorem sign_f03 (s : ByteArray) (i : Int) (w : World) (h0 : 0 ≤ i) (hi : i < s.size) (hs : s.size ≤ 9223372036854775000) (hr : 0 ≤ bt s i) (cb : bt s i = 240) (c1 : (i + 2 < s.size ∧ 128 ≤ bt s (i + 2) ∧ bt s (i + 2) ≤ 191)) (c2 : (i + 3 < s.size ∧ 128 ≤ bt s (i + 3) ∧ bt s (i + 3) ≤ 191)) (c3 : (s.size ≤ i + 1 ∨ bt s (i + 1) < 144 ∨ 191 < bt s (i + 1))) : SignSaid s i w := by
  have hv : (sgStep s i).getD 0 = 0 := by
    have hH := sgH_is (bt s i)
    repeat (first | rw [if_pos (by omega)] at hH | rw [if_neg (by omega)] at hH)
    rw [sgStep_getD, hH]
    try simp only [sgR_0, sgR_1, sgR_2, sgR_3, reduceCtorEq, if_false, if_true, show i + 1 + 1 = i + 2 by omega, show i + 2 + 1 = i + 3 by omega]
    (try repeat (first | rw [if_pos (by omega)] | rw [if_neg (by omega)]))
    all_goals first | rfl | ((repeat' split) <;> first | rfl | omega)
  unfold SignSaid
  rw [hv]
  clear hv
  go_enter Try.func93, Try.ntmps93
  go_wp2_with (first | (go_at_call 95; (with_reducible refine (in_yes _ _ _ _ _ (by omega)).mono ?_); rintro e w' ⟨rfl, ⟨nd, rfl⟩⟩) | (go_at_call 95; (with_reducible refine (in_no _ _ _ _ _ (by omega)).mono ?_); rintro e w' ⟨rfl, ⟨nd, rfl⟩⟩))
  go_ret
  exact ⟨rfl, by repeat (first | exact Drawn0.refl _ | apply Drawn0.step)⟩
set_option maxHeartbeats 8000000 in
set_option maxRecDepth 100000 in
theorem sign_f10 (s : ByteArray) (i : Int) (w : World) (h0 : 0 ≤ i) (hi : i < s.size) (hs : s.size ≤ 9223372036854775000) (hr : 0 ≤ bt s i) (cb : 241 ≤ bt s i ∧ bt s i < 244) (c1 : (s.size ≤ i + 2 ∨ bt s (i + 2) < 128 ∨ 191 < bt s (i + 2))) : SignSaid s i w := by
  have hv : (sgStep s i).getD 0 = 0 := by
    have hH := sgH_is (bt s i)
    repeat (first | rw [if_pos (by omega)] at hH | rw [if_neg (by omega)] at hH)
    rw [sgStep_getD, hH]
    try simp only [sgR_0, sgR_1, sgR_2, sgR_3, reduceCtorEq, if_false, if_true, show i + 1 + 1 = i + 2 by omega, show i + 2 + 1 = i + 3 by omega]
    (try repeat (first | rw [if_pos (by omega)] | rw [if_neg (by omega)]))
    all_goals first | rfl | ((repeat' split) <;> first | rfl | omega)
  unfold SignSaid
  rw [hv]
  clear hv
  go_enter Try.func93, Try.ntmps93
  go_wp2_with (first | (go_at_call 95; (with_reducible refine (in_yes _ _ _ _ _ (by omega)).mono ?_); rintro e w' ⟨rfl, ⟨nd, rfl⟩⟩) | (go_at_call 95; (with_reducible refine (in_no _ _ _ _ _ (by omega)).mono ?_); rintro e w' ⟨rfl, ⟨nd, rfl⟩⟩))
  go_ret
  exact ⟨rfl, by repeat (first | exact Drawn0.refl _ | apply Drawn0.step)⟩
set_option maxHeartbeats 8000000 in
set_option maxRecDepth 100000 in
theorem sign_f11 (s : ByteArray) (i : Int) (w : World) (h0 : 0 ≤ i) (hi : i < s.size) (hs : s.size ≤ 9223372036854775000) (hr : 0 ≤ bt s i) (cb : 241 ≤ bt s i ∧ bt s i < 244) (c1 : (i + 2 < s.size ∧ 128 ≤ bt s (i + 2) ∧ bt s (i + 2) ≤ 191)) (c2 : (s.size ≤ i + 3 ∨ bt s (i + 3) < 128 ∨ 191 < bt s (i + 3))) : SignSaid s i w := by
  have hv : (sgStep s i).getD 0 = 0 := by
    have hH := sgH_is (bt s i)
    repeat (first | rw [if_pos (by omega)] at hH | rw [if_neg (by omega)] at hH)
    rw [sgStep_getD, hH]
    try simp only [sgR_0, sgR_1, sgR_2, sgR_3, reduceCtorEq, if_false, if_true, show i + 1 + 1 = i + 2 by omega, show i + 2 + 1 = i + 3 by omega]
    (try repeat (first | rw [if_pos (by omega)] | rw [if_neg (by omega)]))
    all_goals first | rfl | ((repeat' split) <;> first | rfl | omega)
  unfold SignSaid
  rw [hv]
  clear hv
  go_enter Try.func93, Try.ntmps93
  go_wp2_with (first | (go_at_call 95; (with_reducible refine (in_yes _ _ _ _ _ (by omega)).mono ?_); rintro e w' ⟨rfl, ⟨nd, rfl⟩⟩) | (go_at_call 95; (with_reducible refine (in_no _ _ _ _ _ (by omega)).mono ?_); rintro e w' ⟨rfl, ⟨nd, rfl⟩⟩))
  go_ret
  exact ⟨rfl, by repeat (first | exact Drawn0.refl _ | apply Drawn0.step)⟩
set_option maxHeartbeats 8000000 in
set_option maxRecDepth 100000 in
theorem sign_f12 (s : ByteArray) (i : Int) (w : World) (h0 : 0 ≤ i) (hi : i < s.size) (hs : s.size ≤ 9223372036854775000) (hr : 0 ≤ bt s i) (cb : 241 ≤ bt s i ∧ bt s i < 244) (c1 : (i + 2 < s.size ∧ 128 ≤ bt s (i + 2) ∧ bt s (i + 2) ≤ 191)) (c2 : (i + 3 < s.size ∧ 128 ≤ bt s (i + 3) ∧ bt s (i + 3) ≤ 191)) (c3 : (i + 1 < s.size ∧ 128 ≤ bt s (i + 1) ∧ bt s (i + 1) ≤ 191)) : SignSaid s i w := by
  have hv : (sgStep s i).getD 0 = 4 := by
    have hH := sgH_is (bt s i)
    repeat (first | rw [if_pos (by omega)] at hH | rw [if_neg (by omega)] at hH)
    rw [sgStep_getD, hH]
    try simp only [sgR_0, sgR_1, sgR_2, sgR_3, reduceCtorEq, if_false, if_true, show i + 1 + 1 = i + 2 by omega, show i + 2 + 1 = i + 3 by omega]
    (try repeat (first | rw [if_pos (by omega)] | rw [if_neg (by omega)]))
    all_goals first | rfl | ((repeat' split) <;> first | rfl | omega)
  unfold SignSaid
  rw [hv]
  clear hv
  go_enter Try.func93, Try.ntmps93
  go_wp2_with (first | (go_at_call 95; (with_reducible refine (in_yes _ _ _ _ _ (by omega)).mono ?_); rintro e w' ⟨rfl, ⟨nd, rfl⟩⟩) | (go_at_call 95; (with_reducible refine (in_no _ _ _ _ _ (by omega)).mono ?_); rintro e w' ⟨rfl, ⟨nd, rfl⟩⟩))
  go_ret
  exact ⟨rfl, by repeat (first | exact Drawn0.refl _ | apply Drawn0.step)⟩
set_option maxHeartbeats 8000000 in
set_option maxRecDepth 100000 in
theorem sign_f13 (s : ByteArray) (i : Int) (w : World) (h0 : 0 ≤ i) (hi : i < s.size) (hs : s.size ≤ 9223372036854775000) (hr : 0 ≤ bt s i) (cb : 241 ≤ bt s i ∧ bt s i < 244) (c1 : (i + 2 < s.size ∧ 128 ≤ bt s (i + 2) ∧ bt s (i + 2) ≤ 191)) (c2 : (i + 3 < s.size ∧ 128 ≤ bt s (i + 3) ∧ bt s (i + 3) ≤ 191)) (c3 : (s.size ≤ i + 1 ∨ bt s (i + 1) < 128 ∨ 191 < bt s (i + 1))) : SignSaid s i w := by
  have hv : (sgStep s i).getD 0 = 0 := by
    have hH := sgH_is (bt s i)
    repeat (first | rw [if_pos (by omega)] at hH | rw [if_neg (by omega)] at hH)
    rw [sgStep_getD, hH]
    try simp only [sgR_0, sgR_1, sgR_2, sgR_3, reduceCtorEq, if_false, if_true, show i + 1 + 1 = i + 2 by omega, show i + 2 + 1 = i + 3 by omega]
    (try repeat (first | rw [if_pos (by omega)] | rw [if_neg (by omega)]))
    all_goals first | rfl | ((repeat' split) <;> first | rfl | omega)
  unfold SignSaid
  rw [hv]
  clear hv
  go_enter Try.func93, Try.ntmps93
  go_wp2_with (first | (go_at_call 95; (with_reducible refine (in_yes _ _ _ _ _ (by omega)).mono ?_); rintro e w' ⟨rfl, ⟨nd, rfl⟩⟩) | (go_at_call 95; (with_reducible refine (in_no _ _ _ _ _ (by omega)).mono ?_); rintro e w' ⟨rfl, ⟨nd, rfl⟩⟩))
  go_ret
  exact ⟨rfl, by repeat (first | exact Drawn0.refl _ | apply Drawn0.step)⟩
set_option maxHeartbeats 8000000 in
set_option maxRecDepth 100000 in
theorem sign_f40 (s : ByteArray) (i : Int) (w : World) (h0 : 0 ≤ i) (hi : i < s.size) (hs : s.size ≤ 9223372036854775000) (hr : 0 ≤ bt s i) (cb : bt s i = 244) (c1 : (s.size ≤ i + 2 ∨ bt s (i + 2) < 128 ∨ 191 < bt s (i + 2))) : SignSaid s i w := by
  have hv : (sgStep s i).getD 0 = 0 := by
    have hH := sgH_is (bt s i)
    repeat (first | rw [if_pos (by omega)] at hH | rw [if_neg (by omega)] at hH)
    rw [sgStep_getD, hH]
    try simp only [sgR_0, sgR_1, sgR_2, sgR_3, reduceCtorEq, if_false, if_true, show i + 1 + 1 = i + 2 by omega, show i + 2 + 1 = i + 3 by omega]
    (try repeat (first | rw [if_pos (by omega)] | rw [if_neg (by omega)]))
    all_goals first | rfl | ((repeat' split) <;> first | rfl | omega)
  unfold SignSaid
  rw [hv]
  clear hv
  go_enter Try.func93, Try.ntmps93
  go_wp2_with (first | (go_at_call 95; (with_reducible refine (in_yes _ _ _ _ _ (by omega)).mono ?_); rintro e w' ⟨rfl, ⟨nd, rfl⟩⟩) | (go_at_call 95; (with_reducible refine (in_no _ _ _ _ _ (by omega)).mono ?_); rintro e w' ⟨rfl, ⟨nd, rfl⟩⟩))
  go_ret
  exact ⟨rfl, by repeat (first | exact Drawn0.refl _ | apply Drawn0.step)⟩
set_option maxHeartbeats 8000000 in
set_option maxRecDepth 100000 in
theorem sign_f41 (s : ByteArray) (i : Int) (w : World) (h0 : 0 ≤ i) (hi : i < s.size) (hs : s.size ≤ 9223372036854775000) (hr : 0 ≤ bt s i) (cb : bt s i = 244) (c1 : (i + 2 < s.size ∧ 128 ≤ bt s (i + 2) ∧ bt s (i + 2) ≤ 191)) (c2 : (s.size ≤ i + 3 ∨ bt s (i + 3) < 128 ∨ 191 < bt s (i + 3))) : SignSaid s i w := by
  have hv : (sgStep s i).getD 0 = 0 := by
    have hH := sgH_is (bt s i)
    repeat (first | rw [if_pos (by omega)] at hH | rw [if_neg (by omega)] at hH)
    rw [sgStep_getD, hH]
    try simp only [sgR_0, sgR_1, sgR_2, sgR_3, reduceCtorEq, if_false, if_true, show i + 1 + 1 = i + 2 by omega, show i + 2 + 1 = i + 3 by omega]
    (try repeat (first | rw [if_pos (by omega)] | rw [if_neg (by omega)]))
    all_goals first | rfl | ((repeat' split) <;> first | rfl | omega)
  unfold SignSaid
  rw [hv]
  clear hv
  go_enter Try.func93, Try.ntmps93
  go_wp2_with (first | (go_at_call 95; (with_reducible refine (in_yes _ _ _ _ _ (by omega)).mono ?_); rintro e w' ⟨rfl, ⟨nd, rfl⟩⟩) | (go_at_call 95; (with_reducible refine (in_no _ _ _ _ _ (by omega)).mono ?_); rintro e w' ⟨rfl, ⟨nd, rfl⟩⟩))
  go_ret
  exact ⟨rfl, by repeat (first | exact Drawn0.refl _ | apply Drawn0.step)⟩
set_option maxHeartbeats 8000000 in
set_option maxRecDepth 100000 in
theorem sign_f42 (s : ByteArray) (i : Int) (w : World) (h0 : 0 ≤ i) (hi : i < s.size) (hs : s.size ≤ 9223372036854775000) (hr : 0 ≤ bt s i) (cb : bt s i = 244) (c1 : (i + 2 < s.size ∧ 128 ≤ bt s (i + 2) ∧ bt s (i + 2) ≤ 191)) (c2 : (i + 3 < s.size ∧ 128 ≤ bt s (i + 3) ∧ bt s (i + 3) ≤ 191)) (c3 : (i + 1 < s.size ∧ 128 ≤ bt s (i + 1) ∧ bt s (i + 1) ≤ 143)) : SignSaid s i w := by
  have hv : (sgStep s i).getD 0 = 4 := by
    have hH := sgH_is (bt s i)
    repeat (first | rw [if_pos (by omega)] at hH | rw [if_neg (by omega)] at hH)
    rw [sgStep_getD, hH]
    try simp only [sgR_0, sgR_1, sgR_2, sgR_3, reduceCtorEq, if_false, if_true, show i + 1 + 1 = i + 2 by omega, show i + 2 + 1 = i + 3 by omega]
    (try repeat (first | rw [if_pos (by omega)] | rw [if_neg (by omega)]))
    all_goals first | rfl | ((repeat' split) <;> first | rfl | omega)
  unfold SignSaid
  rw [hv]
  clear hv
  go_enter Try.func93, Try.ntmps93
  go_wp2_with (first | (go_at_call 95; (with_reducible refine (in_yes _ _ _ _ _ (by omega)).mono ?_); rintro e w' ⟨rfl, ⟨nd, rfl⟩⟩) | (go_at_call 95; (with_reducible refine (in_no _ _ _ _ _ (by omega)).mono ?_); rintro e w' ⟨rfl, ⟨nd, rfl⟩⟩))
  go_ret
  exact ⟨rfl, by repeat (first | exact Drawn0.refl _ | apply Drawn0.step)⟩
set_option maxHeartbeats 8000000 in
set_option maxRecDepth 100000 in
theorem sign_f43 (s : ByteArray) (i : Int) (w : World) (h0 : 0 ≤ i) (hi : i < s.size) (hs : s.size ≤ 9223372036854775000) (hr : 0 ≤ bt s i) (cb : bt s i = 244) (c1 : (i + 2 < s.size ∧ 128 ≤ bt s (i + 2) ∧ bt s (i + 2) ≤ 191)) (c2 : (i + 3 < s.size ∧ 128 ≤ bt s (i + 3) ∧ bt s (i + 3) ≤ 191)) (c3 : (s.size ≤ i + 1 ∨ bt s (i + 1) < 128 ∨ 143 < bt s (i + 1))) : SignSaid s i w := by
  have hv : (sgStep s i).getD 0 = 0 := by
    have hH := sgH_is (bt s i)
    repeat (first | rw [if_pos (by omega)] at hH | rw [if_neg (by omega)] at hH)
    rw [sgStep_getD, hH]
    try simp only [sgR_0, sgR_1, sgR_2, sgR_3, reduceCtorEq, if_false, if_true, show i + 1 + 1 = i + 2 by omega, show i + 2 + 1 = i + 3 by omega]
    (try repeat (first | rw [if_pos (by omega)] | rw [if_neg (by omega)]))
    all_goals first | rfl | ((repeat' split) <;> first | rfl | omega)
  unfold SignSaid
  rw [hv]
  clear hv
  go_enter Try.func93, Try.ntmps93
  go_wp2_with (first | (go_at_call 95; (with_reducible refine (in_yes _ _ _ _ _ (by omega)).mono ?_); rintro e w' ⟨rfl, ⟨nd, rfl⟩⟩) | (go_at_call 95; (with_reducible refine (in_no _ _ _ _ _ (by omega)).mono ?_); rintro e w' ⟨rfl, ⟨nd, rfl⟩⟩))
  go_ret
  exact ⟨rfl, by repeat (first | exact Drawn0.refl _ | apply Drawn0.step)⟩
theorem bonsairef04_sign.calls (a0 : ByteArray) (a1 : Int) (r : Int) (w : World) (h : bonsairef04_sign.f a0 a1 = some r) :
    Calls Try.prog 93 #[.string a0, .int .i64 a1] w fun e w' => e = .returned (.int .i64 r) ∧ Drawn0 w w' := by
  unfold bonsairef04_sign.f at h
  split at h
  · rename_i hc
    obtain ⟨h0, hi, hs⟩ := hc
    cases h
    have hr := (bt_range a0 a1).1
    have q1 := fun lo hi => (show (a1 + 1 < (a0.size : Int) ∧ lo ≤ bt a0 (a1 + 1) ∧ bt a0 (a1 + 1) ≤ hi) ∨ ((a0.size : Int) ≤ a1 + 1 ∨ bt a0 (a1 + 1) < lo ∨ hi < bt a0 (a1 + 1)) by omega)
    have q2 : (a1 + 2 < (a0.size : Int) ∧ 128 ≤ bt a0 (a1 + 2) ∧ bt a0 (a1 + 2) ≤ 191) ∨ ((a0.size : Int) ≤ a1 + 2 ∨ bt a0 (a1 + 2) < 128 ∨ 191 < bt a0 (a1 + 2)) := by omega
    have q3 : (a1 + 3 < (a0.size : Int) ∧ 128 ≤ bt a0 (a1 + 3) ∧ bt a0 (a1 + 3) ≤ 191) ∨ ((a0.size : Int) ≤ a1 + 3 ∨ bt a0 (a1 + 3) < 128 ∨ 191 < bt a0 (a1 + 3)) := by omega
    have cls : bt a0 a1 < 128 ∨ (128 ≤ bt a0 a1 ∧ bt a0 a1 < 194 ∨ 245 ≤ bt a0 a1) ∨ (194 ≤ bt a0 a1 ∧ bt a0 a1 < 224) ∨ bt a0 a1 = 224 ∨ (225 ≤ bt a0 a1 ∧ bt a0 a1 < 237) ∨ bt a0 a1 = 237 ∨ (238 ≤ bt a0 a1 ∧ bt a0 a1 < 240) ∨ bt a0 a1 = 240 ∨ (241 ≤ bt a0 a1 ∧ bt a0 a1 < 244) ∨ bt a0 a1 = 244 := by omega
    show SignSaid a0 a1 w
    rcases cls with c | c | c | c | c | c | c | c | c | c
    · exact sign_asc0 a0 a1 w h0 hi hs hr c
    · rcases q2 with b | b
      · rcases q3 with d | d
        · exact sign_bad2 a0 a1 w h0 hi hs hr c b d
        · exact sign_bad1 a0 a1 w h0 hi hs hr c b d
      · exact sign_bad0 a0 a1 w h0 hi hs hr c b
    · rcases q1 128 191 with e | e
      · exact sign_two0 a0 a1 w h0 hi hs hr c e
      · rcases q2 with b | b
        · rcases q3 with d | d
          · exact sign_two3 a0 a1 w h0 hi hs hr c e b d
          · exact sign_two2 a0 a1 w h0 hi hs hr c e b d
        · exact sign_two1 a0 a1 w h0 hi hs hr c e b
    · rcases q2 with b | b
      · rcases q1 160 191 with e | e
        · exact sign_e01 a0 a1 w h0 hi hs hr c b e
        · rcases q3 with d | d
          · exact sign_e03 a0 a1 w h0 hi hs hr c b e d
          · exact sign_e02 a0 a1 w h0 hi hs hr c b e d
      · exact sign_e00 a0 a1 w h0 hi hs hr c b
    · rcases q2 with b | b
      · rcases q1 128 191 with e | e
        · exact sign_e11 a0 a1 w h0 hi hs hr c b e
        · rcases q3 with d | d
          · exact sign_e13 a0 a1 w h0 hi hs hr c b e d
          · exact sign_e12 a0 a1 w h0 hi hs hr c b e d
      · exact sign_e10 a0 a1 w h0 hi hs hr c b
    · rcases q2 with b | b
      · rcases q1 128 159 with e | e
        · exact sign_ed1 a0 a1 w h0 hi hs hr c b e
        · rcases q3 with d | d
          · exact sign_ed3 a0 a1 w h0 hi hs hr c b e d
          · exact sign_ed2 a0 a1 w h0 hi hs hr c b e d
      · exact sign_ed0 a0 a1 w h0 hi hs hr c b
    · rcases q2 with b | b
      · rcases q1 128 191 with e | e
        · exact sign_ee1 a0 a1 w h0 hi hs hr c b e
        · rcases q3 with d | d
          · exact sign_ee3 a0 a1 w h0 hi hs hr c b e d
          · exact sign_ee2 a0 a1 w h0 hi hs hr c b e d
      · exact sign_ee0 a0 a1 w h0 hi hs hr c b
    · rcases q2 with b | b
      · rcases q3 with d | d
        · rcases q1 144 191 with e | e
          · exact sign_f02 a0 a1 w h0 hi hs hr c b d e
          · exact sign_f03 a0 a1 w h0 hi hs hr c b d e
        · exact sign_f01 a0 a1 w h0 hi hs hr c b d
      · exact sign_f00 a0 a1 w h0 hi hs hr c b
    · rcases q2 with b | b
      · rcases q3 with d | d
        · rcases q1 128 191 with e | e
          · exact sign_f12 a0 a1 w h0 hi hs hr c b d e
          · exact sign_f13 a0 a1 w h0 hi hs hr c b d e
        · exact sign_f11 a0 a1 w h0 hi hs hr c b d
      · exact sign_f10 a0 a1 w h0 hi hs hr c b
    · rcases q2 with b | b
      · rcases q3 with d | d
        · rcases q1 128 143 with e | e
          · exact sign_f42 a0 a1 w h0 hi hs hr c b d e
          · exact sign_f43 a0 a1 w h0 hi hs hr c b d e
        · exact sign_f41 a0 a1 w h0 hi hs hr c b d
      · exact sign_f40 a0 a1 w h0 hi hs hr c b
  · cases h
def bonsairef04_First.l0 : Nat → ByteArray → Int → Option (Int × Bool)
  | 0, _, _ => none
  | k + 1, x0, x4 => if x4 < (x0.size : Int) then ((bonsairef04_sign.f x0 x4).bind fun t254 => (if t254 = 0 then (some (x4, true)) else (bonsairef04_First.l0 k x0 (wrap64 (x4 + t254))))) else (some (0, false))
def bonsairef04_First.f (k : Nat) (a0 : ByteArray) : Option (Int × Bool) := bonsairef04_First.l0 k a0 0
set_option maxHeartbeats 8000000 in
set_option maxRecDepth 100000 in
theorem bonsairef04_First.calls (k : Nat) (a0 : ByteArray) (r1 : Int) (r2 : Bool) (w : World) (h : bonsairef04_First.f k a0 = some (r1, r2)) :
    Calls Try.prog 88 #[.string a0] w fun e w' => e = .returned (.tuple #[.int .i64 r1, .bool r2]) ∧ Drawn0 w w' := by
  have H : (bonsairef04_First.l0 k a0 0) = some (r1, r2) := h
  clear h
  have H' := Aside0.mk H
  clear H
  go_enter Try.func88, Try.ntmps88
  go_wp2
  go_loopg [4] k (fun kq v4 w' => ∃ (x4_1 : Int), v4 = .int .i64 x4_1 ∧ Aside0 (bonsairef04_First.l0 kq a0 x4_1 = some (r1, r2)) ∧ Aside0 (kq ≤ k) ∧ Drawn0 w w')
  case atStart => exact ⟨(0), (by first | rfl | (simp; done) | (simp [*]; done)), H', ⟨Nat.le_refl _⟩, by repeat (first | exact Drawn0.refl _ | apply Drawn0.step)⟩
  case round =>
    clear H'
    obtain ⟨x4_1, rfl, HA, HK1, ⟨m1, rfl⟩⟩ := hrel
    cases gk with
    | zero => exact absurd HA.out (by simp [bonsairef04_First.l0])
    | succ k1 =>
      have H := HA.out
      clear HA
      simp only [bonsairef04_First.l0] at H
      by_cases c2 : x4_1 < (a0.size : Int)
      · rw [if_pos c2] at H
        have c2b0 : decide (x4_1 < (a0.size : Int)) = true := decide_eq_true c2
        clear c2
        replace H := Option.bind_eq_some_iff.mp H
        obtain ⟨t254, A30, H⟩ := H
        replace H : (if t254 = 0 then (some (x4_1, true)) else (bonsairef04_First.l0 k1 a0 (wrap64 (x4_1 + t254)))) = some (r1, r2) := H
        have A3 := Aside0.mk A30
        clear A30
        by_cases c4 : t254 = 0
        · rw [if_pos c4] at H
          have c4b0 : (t254 == 0) = true := beq_iff_eq.mpr c4
          have c4b1 : (t254 != 0) = false := bne_eq_false_iff_eq.mpr c4
          clear c4
          simp only [Option.some.injEq, Prod.mk.injEq] at H
          obtain ⟨rfl, rfl⟩ := H
          go_wp2_with (first | ((with_reducible refine gate_callee (f := 93) rfl ?_); refine goesL_ (some 12) rfl rfl Try.func93 (by kernel_rfl) rfl #[.string a0, .int .i64 x4_1] rfl (by (try simp only [List.map_toArray, List.map_cons, List.map_nil]); first | done | rfl | (simp only [List.length_drop, List.length_take]; rfl)) ?_; (with_reducible refine (bonsairef04_sign.calls a0 x4_1 t254 _ A3.out).mono ?_); rintro e w' ⟨rfl, ⟨nd, rfl⟩⟩; refine ⟨_, rfl, ?_⟩))
          go_ret2
          exact ⟨by first | rfl | (simp; done) | (simp [*]; done), by repeat (first | exact Drawn0.refl _ | apply Drawn0.step)⟩
        · rw [if_neg c4] at H
          have c4b0 : (t254 == 0) = false := beq_eq_false_iff_ne.mpr c4
          have c4b1 : (t254 != 0) = true := bne_iff_ne.mpr c4
          have H' := Aside0.mk H
          clear H
          go_wp2_with (first | ((with_reducible refine gate_callee (f := 93) rfl ?_); refine goesL_ (some 12) rfl rfl Try.func93 (by kernel_rfl) rfl #[.string a0, .int .i64 x4_1] rfl (by (try simp only [List.map_toArray, List.map_cons, List.map_nil]); first | done | rfl | (simp only [List.length_drop, List.length_take]; rfl)) ?_; (with_reducible refine (bonsairef04_sign.calls a0 x4_1 t254 _ A3.out).mono ?_); rintro e w' ⟨rfl, ⟨nd, rfl⟩⟩; refine ⟨_, rfl, ?_⟩))
          go_roundg k1
          case measure => have := HK1.out; omega
          case rel => exact ⟨(wrap64 (x4_1 + t254)), (by first | rfl | (simp; done) | (simp [*]; done)), H', ⟨by have := HK1.out; omega⟩, by repeat (first | exact Drawn0.refl _ | apply Drawn0.step)⟩
      · rw [if_neg c2] at H
        have c2b0 : decide (x4_1 < (a0.size : Int)) = false := decide_eq_false c2
        clear c2
        simp only [Option.some.injEq, Prod.mk.injEq] at H
        obtain ⟨rfl, rfl⟩ := H
        go_wp2
        go_ret2
        exact ⟨by first | rfl | (simp; done) | (simp [*]; done), by repeat (first | exact Drawn0.refl _ | apply Drawn0.step)⟩
def bonsairef04_Valid.f (k : Nat) (a0 : ByteArray) : Option (Bool) := (bonsairef04_First.f k a0).bind fun bt255 => (some (!bt255.2))
set_option maxHeartbeats 8000000 in
set_option maxRecDepth 100000 in
theorem bonsairef04_Valid.calls (k : Nat) (a0 : ByteArray) (r : Bool) (w : World) (h : bonsairef04_Valid.f k a0 = some r) :
    Calls Try.prog 71 #[.string a0] w fun e w' => e = .returned (.bool r) ∧ Drawn0 w w' := by
  have H : ((bonsairef04_First.f k a0).bind fun bt255 => (some (!bt255.2))) = some r := h
  clear h
  replace H := Option.bind_eq_some_iff.mp H
  obtain ⟨⟨t255, t256⟩, A20, H⟩ := H
  replace H : (some (!t256)) = some r := H
  have A2 := Aside0.mk A20
  clear A20
  obtain rfl := Option.some.inj H
  go_enter Try.func71, Try.ntmps71
  go_wp2_with (first | ((with_reducible refine gate_callee (f := 88) rfl ?_); refine goesL_ (some 7) rfl rfl Try.func88 (by kernel_rfl) rfl #[.string a0] rfl (by (try simp only [List.map_toArray, List.map_cons, List.map_nil]); first | done | rfl | (simp only [List.length_drop, List.length_take]; rfl)) ?_; (with_reducible refine (bonsairef04_First.calls k a0 t255 t256 _ A2.out).mono ?_); rintro e w' ⟨rfl, ⟨nd, rfl⟩⟩; refine ⟨_, rfl, ?_⟩))
  go_ret
  exact ⟨by first | rfl | (simp; done) | (simp [*]; done), by repeat (first | exact Drawn0.refl _ | apply Drawn0.step)⟩
end Go.Proofs.Ytfgnjndfnijjoaa.Print
end
section
namespace Go.Proofs.Ytfgnjndfnijjoaa.Print
open Go.RowKit Go.Proofs.YtfgnjndfnijjoaaW.PrintWords Go.Proofs.YtfgnjndfnijjoaaW.PrintLast Go.Proofs.YtfgnjndfnijjoaaW.PrintMore
attribute [local go_sem] max2_int min2_int max_two min_two max_three min_three max_four min_four
attribute [local go_sem] run_store_float
set_option linter.unusedVariables false
set_option linter.unusedSimpArgs false
def bonsairef12_One.f (k : Nat) (a0_0 : Int) (a0_1 : Int) (a0_2 : ByteArray) (a0_3 : Int) : Option (Bool) := if a0_0 ≥ 1 then (if a0_0 ≤ 2147483647 then (if a0_1 ≥ 0 then (if a0_1 ≤ 2147483647 then (if (a0_2.size : Int) ≤ 64 then ((bonsairef04_Valid.f k a0_2).bind fun t258 => (some t258)) else (some false)) else (some false)) else (some false)) else (some false)) else (some false)
set_option maxHeartbeats 8000000 in
set_option maxRecDepth 100000 in
theorem bonsairef12_One.calls (k : Nat) (a0_0 : Int) (a0_1 : Int) (a0_2 : ByteArray) (bv0_3 : Nat) (a0_3 : Int) (r : Bool) (w : World) (bq0_3 : FB bv0_3 a0_3) (h : bonsairef12_One.f k a0_0 a0_1 a0_2 a0_3 = some r) :
    Calls Try.prog 73 #[.agg #[.int .i64 a0_0, .int .i64 a0_1, .string a0_2, .float .f64 bv0_3]] w fun e w' => e = .returned (.bool r) ∧ Below w.heap.size w w' := by
  have hu96 := Try.underlying96
  have HB := Aside0.mk (Below.refl w.heap.size w)
  have H : (if a0_0 ≥ 1 then (if a0_0 ≤ 2147483647 then (if a0_1 ≥ 0 then (if a0_1 ≤ 2147483647 then (if (a0_2.size : Int) ≤ 64 then ((bonsairef04_Valid.f k a0_2).bind fun t258 => (some t258)) else (some false)) else (some false)) else (some false)) else (some false)) else (some false)) = some r := h
  clear h
  by_cases c2 : a0_0 ≥ 1
  · rw [if_pos c2] at H
    have c2b0 : decide (1 ≤ a0_0) = true := decide_eq_true c2
    clear c2
    by_cases c3 : a0_0 ≤ 2147483647
    · rw [if_pos c3] at H
      have c3b0 : decide (a0_0 ≤ 2147483647) = true := decide_eq_true c3
      clear c3
      by_cases c4 : a0_1 ≥ 0
      · rw [if_pos c4] at H
        have c4b0 : decide (0 ≤ a0_1) = true := decide_eq_true c4
        clear c4
        by_cases c5 : a0_1 ≤ 2147483647
        · rw [if_pos c5] at H
          have c5b0 : decide (a0_1 ≤ 2147483647) = true := decide_eq_true c5
          clear c5
          by_cases c6 : (a0_2.size : Int) ≤ 64
          · rw [if_pos c6] at H
            have c6b0 : decide ((a0_2.size : Int) ≤ 64) = true := decide_eq_true c6
            have c6b1 : decide (a0_2.size ≤ 64) = true := decide_eq_true (by omega)
            clear c6
            replace H := Option.bind_eq_some_iff.mp H
            obtain ⟨t258, A70, H⟩ := H
            replace H : (some t258) = some r := H
            have A7 := Aside0.mk A70
            clear A70
            obtain rfl := Option.some.inj H
            go_enter Try.func73, Try.ntmps73
            go_wp2_with (first | ((with_reducible refine gate_dst (N := 1) rfl ?_); (try (refine gate_guard (by rfl) ?_; dsimp only)); refine box_event ?hg (N := 1) ?hd (cs := #[.int .i64 a0_0, .int .i64 a0_1, .string a0_2, .float .f64 bv0_3]) (t := 96) ?hr ?_; (case hd => rfl); (case hg => rfl); (case hr => first | (go_simp; done) | (go_simp; rfl)); intro gb257 hg w8 hbox hb; have n0_ := Aside0.mk (below_step (by repeat (first | (with_reducible first | exact HB.out | apply below_alloc | apply pw_below_drewN | apply below_drew1) | exact HB.out)) hb); have n1_ := Aside0.mk (hbox); have n2_ := Aside0.mk ((by rw [hg]; exact (below_size (by repeat (first | (with_reducible first | exact HB.out | apply below_alloc | apply pw_below_drewN | apply below_drew1) | exact HB.out))) : w.heap.size ≤ gb257)); have n3_ := Aside0.mk ((by rw [hg]; exact (below_size (by repeat (first | (with_reducible first | exact HB.out | apply below_alloc | apply pw_below_drewN | apply below_drew1) | exact HB.out))) : w.heap.size ≤ gb257)); clear HB; have HB := n0_; have BK257 := n1_; have GW257 := n2_; have GE257 := n3_; clear n0_ n1_ n2_ n3_; clear hb hbox hg; have hcz9_0 : w8.cell? ⟨gb257, 0, none⟩ = some (.int .i64 a0_0) := (blk_cell BK257.out 0).trans rfl; have hcz9_1 : w8.cell? ⟨gb257, 1, none⟩ = some (.int .i64 a0_1) := (blk_cell BK257.out 1).trans rfl; have hcz9_2 : w8.cell? ⟨gb257, 2, none⟩ = some (.string a0_2) := (blk_cell BK257.out 2).trans rfl; have hcz9_3 : w8.cell? ⟨gb257, 3, none⟩ = some (.float .f64 bv0_3) := (blk_cell BK257.out 3).trans rfl; have hfz9_0 := blk_frozen BK257.out 0; have hfz9_1 := blk_frozen BK257.out 1; have hfz9_2 := blk_frozen BK257.out 2; have hfz9_3 := blk_frozen BK257.out 3) | (go_at_call 71; (with_reducible refine (bonsairef04_Valid.calls k a0_2 t258 _ A7.out).mono ?_); rintro e w' ⟨rfl, ⟨nd, rfl⟩⟩))
            go_ret
            exact ⟨by first | rfl | (simp [errW_none, errW_some] <;> rfl) | (simp [*, errW_none, errW_some] <;> rfl), by repeat (first | (with_reducible first | exact HB.out | apply below_alloc | apply pw_below_drewN | apply below_drew1 | refine below_set ?_ GE257.out) | exact HB.out)⟩
          · rw [if_neg c6] at H
            have c6b0 : decide ((a0_2.size : Int) ≤ 64) = false := decide_eq_false c6
            have c6b1 : decide (a0_2.size ≤ 64) = false := decide_eq_false (by omega)
            clear c6
            obtain rfl := Option.some.inj H
            go_enter Try.func73, Try.ntmps73
            go_wp2_with (first | ((with_reducible refine gate_dst (N := 1) rfl ?_); (try (refine gate_guard (by rfl) ?_; dsimp only)); refine box_event ?hg (N := 1) ?hd (cs := #[.int .i64 a0_0, .int .i64 a0_1, .string a0_2, .float .f64 bv0_3]) (t := 96) ?hr ?_; (case hd => rfl); (case hg => rfl); (case hr => first | (go_simp; done) | (go_simp; rfl)); intro gb257 hg w10 hbox hb; have n0_ := Aside0.mk (below_step (by repeat (first | (with_reducible first | exact HB.out | apply below_alloc | apply pw_below_drewN | apply below_drew1) | exact HB.out)) hb); have n1_ := Aside0.mk (hbox); have n2_ := Aside0.mk ((by rw [hg]; exact (below_size (by repeat (first | (with_reducible first | exact HB.out | apply below_alloc | apply pw_below_drewN | apply below_drew1) | exact HB.out))) : w.heap.size ≤ gb257)); have n3_ := Aside0.mk ((by rw [hg]; exact (below_size (by repeat (first | (with_reducible first | exact HB.out | apply below_alloc | apply pw_below_drewN | apply below_drew1) | exact HB.out))) : w.heap.size ≤ gb257)); clear HB; have HB := n0_; have BK257 := n1_; have GW257 := n2_; have GE257 := n3_; clear n0_ n1_ n2_ n3_; clear hb hbox hg; have hcz11_0 : w10.cell? ⟨gb257, 0, none⟩ = some (.int .i64 a0_0) := (blk_cell BK257.out 0).trans rfl; have hcz11_1 : w10.cell? ⟨gb257, 1, none⟩ = some (.int .i64 a0_1) := (blk_cell BK257.out 1).trans rfl; have hcz11_2 : w10.cell? ⟨gb257, 2, none⟩ = some (.string a0_2) := (blk_cell BK257.out 2).trans rfl; have hcz11_3 : w10.cell? ⟨gb257, 3, none⟩ = some (.float .f64 bv0_3) := (blk_cell BK257.out 3).trans rfl; have hfz11_0 := blk_frozen BK257.out 0; have hfz11_1 := blk_frozen BK257.out 1; have hfz11_2 := blk_frozen BK257.out 2; have hfz11_3 := blk_frozen BK257.out 3))
            go_ret
            exact ⟨by first | rfl | (simp [errW_none, errW_some] <;> rfl) | (simp [*, errW_none, errW_some] <;> rfl), by repeat (first | (with_reducible first | exact HB.out | apply below_alloc | apply pw_below_drewN | apply below_drew1 | refine below_set ?_ GE257.out) | exact HB.out)⟩
        · rw [if_neg c5] at H
          have c5b0 : decide (a0_1 ≤ 2147483647) = false := decide_eq_false c5
          clear c5
          obtain rfl := Option.some.inj H
          go_enter Try.func73, Try.ntmps73
          go_wp2_with (first | ((with_reducible refine gate_dst (N := 1) rfl ?_); (try (refine gate_guard (by rfl) ?_; dsimp only)); refine box_event ?hg (N := 1) ?hd (cs := #[.int .i64 a0_0, .int .i64 a0_1, .string a0_2, .float .f64 bv0_3]) (t := 96) ?hr ?_; (case hd => rfl); (case hg => rfl); (case hr => first | (go_simp; done) | (go_simp; rfl)); intro gb257 hg w12 hbox hb; have n0_ := Aside0.mk (below_step (by repeat (first | (with_reducible first | exact HB.out | apply below_alloc | apply pw_below_drewN | apply below_drew1) | exact HB.out)) hb); have n1_ := Aside0.mk (hbox); have n2_ := Aside0.mk ((by rw [hg]; exact (below_size (by repeat (first | (with_reducible first | exact HB.out | apply below_alloc | apply pw_below_drewN | apply below_drew1) | exact HB.out))) : w.heap.size ≤ gb257)); have n3_ := Aside0.mk ((by rw [hg]; exact (below_size (by repeat (first | (with_reducible first | exact HB.out | apply below_alloc | apply pw_below_drewN | apply below_drew1) | exact HB.out))) : w.heap.size ≤ gb257)); clear HB; have HB := n0_; have BK257 := n1_; have GW257 := n2_; have GE257 := n3_; clear n0_ n1_ n2_ n3_; clear hb hbox hg; have hcz13_0 : w12.cell? ⟨gb257, 0, none⟩ = some (.int .i64 a0_0) := (blk_cell BK257.out 0).trans rfl; have hcz13_1 : w12.cell? ⟨gb257, 1, none⟩ = some (.int .i64 a0_1) := (blk_cell BK257.out 1).trans rfl; have hcz13_2 : w12.cell? ⟨gb257, 2, none⟩ = some (.string a0_2) := (blk_cell BK257.out 2).trans rfl; have hcz13_3 : w12.cell? ⟨gb257, 3, none⟩ = some (.float .f64 bv0_3) := (blk_cell BK257.out 3).trans rfl; have hfz13_0 := blk_frozen BK257.out 0; have hfz13_1 := blk_frozen BK257.out 1; have hfz13_2 := blk_frozen BK257.out 2; have hfz13_3 := blk_frozen BK257.out 3))
          go_ret
          exact ⟨by first | rfl | (simp [errW_none, errW_some] <;> rfl) | (simp [*, errW_none, errW_some] <;> rfl), by repeat (first | (with_reducible first | exact HB.out | apply below_alloc | apply pw_below_drewN | apply below_drew1 | refine below_set ?_ GE257.out) | exact HB.out)⟩
      · rw [if_neg c4] at H
        have c4b0 : decide (0 ≤ a0_1) = false := decide_eq_false c4
        clear c4
        obtain rfl := Option.some.inj H
        go_enter Try.func73, Try.ntmps73
        go_wp2_with (first | ((with_reducible refine gate_dst (N := 1) rfl ?_); (try (refine gate_guard (by rfl) ?_; dsimp only)); refine box_event ?hg (N := 1) ?hd (cs := #[.int .i64 a0_0, .int .i64 a0_1, .string a0_2, .float .f64 bv0_3]) (t := 96) ?hr ?_; (case hd => rfl); (case hg => rfl); (case hr => first | (go_simp; done) | (go_simp; rfl)); intro gb257 hg w14 hbox hb; have n0_ := Aside0.mk (below_step (by repeat (first | (with_reducible first | exact HB.out | apply below_alloc | apply pw_below_drewN | apply below_drew1) | exact HB.out)) hb); have n1_ := Aside0.mk (hbox); have n2_ := Aside0.mk ((by rw [hg]; exact (below_size (by repeat (first | (with_reducible first | exact HB.out | apply below_alloc | apply pw_below_drewN | apply below_drew1) | exact HB.out))) : w.heap.size ≤ gb257)); have n3_ := Aside0.mk ((by rw [hg]; exact (below_size (by repeat (first | (with_reducible first | exact HB.out | apply below_alloc | apply pw_below_drewN | apply below_drew1) | exact HB.out))) : w.heap.size ≤ gb257)); clear HB; have HB := n0_; have BK257 := n1_; have GW257 := n2_; have GE257 := n3_; clear n0_ n1_ n2_ n3_; clear hb hbox hg; have hcz15_0 : w14.cell? ⟨gb257, 0, none⟩ = some (.int .i64 a0_0) := (blk_cell BK257.out 0).trans rfl; have hcz15_1 : w14.cell? ⟨gb257, 1, none⟩ = some (.int .i64 a0_1) := (blk_cell BK257.out 1).trans rfl; have hcz15_2 : w14.cell? ⟨gb257, 2, none⟩ = some (.string a0_2) := (blk_cell BK257.out 2).trans rfl; have hcz15_3 : w14.cell? ⟨gb257, 3, none⟩ = some (.float .f64 bv0_3) := (blk_cell BK257.out 3).trans rfl; have hfz15_0 := blk_frozen BK257.out 0; have hfz15_1 := blk_frozen BK257.out 1; have hfz15_2 := blk_frozen BK257.out 2; have hfz15_3 := blk_frozen BK257.out 3))
        go_ret
        exact ⟨by first | rfl | (simp [errW_none, errW_some] <;> rfl) | (simp [*, errW_none, errW_some] <;> rfl), by repeat (first | (with_reducible first | exact HB.out | apply below_alloc | apply pw_below_drewN | apply below_drew1 | refine below_set ?_ GE257.out) | exact HB.out)⟩
    · rw [if_neg c3] at H
      have c3b0 : decide (a0_0 ≤ 2147483647) = false := decide_eq_false c3
      clear c3
      obtain rfl := Option.some.inj H
      go_enter Try.func73, Try.ntmps73
      go_wp2_with (first | ((with_reducible refine gate_dst (N := 1) rfl ?_); (try (refine gate_guard (by rfl) ?_; dsimp only)); refine box_event ?hg (N := 1) ?hd (cs := #[.int .i64 a0_0, .int .i64 a0_1, .string a0_2, .float .f64 bv0_3]) (t := 96) ?hr ?_; (case hd => rfl); (case hg => rfl); (case hr => first | (go_simp; done) | (go_simp; rfl)); intro gb257 hg w16 hbox hb; have n0_ := Aside0.mk (below_step (by repeat (first | (with_reducible first | exact HB.out | apply below_alloc | apply pw_below_drewN | apply below_drew1) | exact HB.out)) hb); have n1_ := Aside0.mk (hbox); have n2_ := Aside0.mk ((by rw [hg]; exact (below_size (by repeat (first | (with_reducible first | exact HB.out | apply below_alloc | apply pw_below_drewN | apply below_drew1) | exact HB.out))) : w.heap.size ≤ gb257)); have n3_ := Aside0.mk ((by rw [hg]; exact (below_size (by repeat (first | (with_reducible first | exact HB.out | apply below_alloc | apply pw_below_drewN | apply below_drew1) | exact HB.out))) : w.heap.size ≤ gb257)); clear HB; have HB := n0_; have BK257 := n1_; have GW257 := n2_; have GE257 := n3_; clear n0_ n1_ n2_ n3_; clear hb hbox hg; have hcz17_0 : w16.cell? ⟨gb257, 0, none⟩ = some (.int .i64 a0_0) := (blk_cell BK257.out 0).trans rfl; have hcz17_1 : w16.cell? ⟨gb257, 1, none⟩ = some (.int .i64 a0_1) := (blk_cell BK257.out 1).trans rfl; have hcz17_2 : w16.cell? ⟨gb257, 2, none⟩ = some (.string a0_2) := (blk_cell BK257.out 2).trans rfl; have hcz17_3 : w16.cell? ⟨gb257, 3, none⟩ = some (.float .f64 bv0_3) := (blk_cell BK257.out 3).trans rfl; have hfz17_0 := blk_frozen BK257.out 0; have hfz17_1 := blk_frozen BK257.out 1; have hfz17_2 := blk_frozen BK257.out 2; have hfz17_3 := blk_frozen BK257.out 3))
      go_ret
      exact ⟨by first | rfl | (simp [errW_none, errW_some] <;> rfl) | (simp [*, errW_none, errW_some] <;> rfl), by repeat (first | (with_reducible first | exact HB.out | apply below_alloc | apply pw_below_drewN | apply below_drew1 | refine below_set ?_ GE257.out) | exact HB.out)⟩
  · rw [if_neg c2] at H
    have c2b0 : decide (1 ≤ a0_0) = false := decide_eq_false c2
    clear c2
    obtain rfl := Option.some.inj H
    go_enter Try.func73, Try.ntmps73
    go_wp2_with (first | ((with_reducible refine gate_dst (N := 1) rfl ?_); (try (refine gate_guard (by rfl) ?_; dsimp only)); refine box_event ?hg (N := 1) ?hd (cs := #[.int .i64 a0_0, .int .i64 a0_1, .string a0_2, .float .f64 bv0_3]) (t := 96) ?hr ?_; (case hd => rfl); (case hg => rfl); (case hr => first | (go_simp; done) | (go_simp; rfl)); intro gb257 hg w18 hbox hb; have n0_ := Aside0.mk (below_step (by repeat (first | (with_reducible first | exact HB.out | apply below_alloc | apply pw_below_drewN | apply below_drew1) | exact HB.out)) hb); have n1_ := Aside0.mk (hbox); have n2_ := Aside0.mk ((by rw [hg]; exact (below_size (by repeat (first | (with_reducible first | exact HB.out | apply below_alloc | apply pw_below_drewN | apply below_drew1) | exact HB.out))) : w.heap.size ≤ gb257)); have n3_ := Aside0.mk ((by rw [hg]; exact (below_size (by repeat (first | (with_reducible first | exact HB.out | apply below_alloc | apply pw_below_drewN | apply below_drew1) | exact HB.out))) : w.heap.size ≤ gb257)); clear HB; have HB := n0_; have BK257 := n1_; have GW257 := n2_; have GE257 := n3_; clear n0_ n1_ n2_ n3_; clear hb hbox hg; have hcz19_0 : w18.cell? ⟨gb257, 0, none⟩ = some (.int .i64 a0_0) := (blk_cell BK257.out 0).trans rfl; have hcz19_1 : w18.cell? ⟨gb257, 1, none⟩ = some (.int .i64 a0_1) := (blk_cell BK257.out 1).trans rfl; have hcz19_2 : w18.cell? ⟨gb257, 2, none⟩ = some (.string a0_2) := (blk_cell BK257.out 2).trans rfl; have hcz19_3 : w18.cell? ⟨gb257, 3, none⟩ = some (.float .f64 bv0_3) := (blk_cell BK257.out 3).trans rfl; have hfz19_0 := blk_frozen BK257.out 0; have hfz19_1 := blk_frozen BK257.out 1; have hfz19_2 := blk_frozen BK257.out 2; have hfz19_3 := blk_frozen BK257.out 3))
    go_ret
    exact ⟨by first | rfl | (simp [errW_none, errW_some] <;> rfl) | (simp [*, errW_none, errW_some] <;> rfl), by repeat (first | (with_reducible first | exact HB.out | apply below_alloc | apply pw_below_drewN | apply below_drew1 | refine below_set ?_ GE257.out) | exact HB.out)⟩
def bonsairef13_One.f (k : Nat) (a0_0 : Int) (a0_1 : Int) (a0_2 : Int) (a0_3 : Int) (a0_4 : ByteArray) (a0_5 : Int) : Option (Bool) := (bonsairef13_Time.f a0_0 a0_1).bind fun t260 => (if t260 = true then ((bonsairef13_Row.f a0_0 a0_1 a0_2 a0_3 a0_4 a0_5).bind fun bt261 => ((bonsairef12_One.f k bt261.1 bt261.2.1 bt261.2.2.1 bt261.2.2.2).bind fun t266 => (some t266))) else (some false))
set_option maxHeartbeats 8000000 in
set_option maxRecDepth 100000 in
theorem bonsairef13_One.calls (k : Nat) (a0_0 : Int) (a0_1 : Int) (a0_2 : Int) (a0_3 : Int) (a0_4 : ByteArray) (bv0_5 : Nat) (a0_5 : Int) (r : Bool) (w : World) (bq0_5 : FB bv0_5 a0_5) (h : bonsairef13_One.f k a0_0 a0_1 a0_2 a0_3 a0_4 a0_5 = some r) :
    Calls Try.prog 41 #[.agg #[.int .i64 a0_0, .int .i64 a0_1, .int .i64 a0_2, .int .i64 a0_3, .string a0_4, .float .f64 bv0_5]] w fun e w' => e = .returned (.bool r) ∧ Below w.heap.size w w' := by
  have hu30 := Try.underlying30
  have hu27 := Try.underlying27
  have HB := Aside0.mk (Below.refl w.heap.size w)
  have H : ((bonsairef13_Time.f a0_0 a0_1).bind fun t260 => (if t260 = true then ((bonsairef13_Row.f a0_0 a0_1 a0_2 a0_3 a0_4 a0_5).bind fun bt261 => ((bonsairef12_One.f k bt261.1 bt261.2.1 bt261.2.2.1 bt261.2.2.2).bind fun t266 => (some t266))) else (some false))) = some r := h
  clear h
  replace H := Option.bind_eq_some_iff.mp H
  obtain ⟨t260, A20, H⟩ := H
  replace H : (if t260 = true then ((bonsairef13_Row.f a0_0 a0_1 a0_2 a0_3 a0_4 a0_5).bind fun bt261 => ((bonsairef12_One.f k bt261.1 bt261.2.1 bt261.2.2.1 bt261.2.2.2).bind fun t266 => (some t266))) else (some false)) = some r := H
  have A2 := Aside0.mk A20
  clear A20
  by_cases c3 : t260 = true
  · subst c3
    have H1 : ((bonsairef13_Row.f a0_0 a0_1 a0_2 a0_3 a0_4 a0_5).bind fun bt261 => ((bonsairef12_One.f k bt261.1 bt261.2.1 bt261.2.2.1 bt261.2.2.2).bind fun t266 => (some t266))) = some r := by rw [if_pos rfl] at H; exact H
    clear H
    have H := H1
    clear H1
    replace H := Option.bind_eq_some_iff.mp H
    obtain ⟨⟨t261, t262, t263, t264⟩, A40, H⟩ := H
    replace H : ((bonsairef12_One.f k t261 t262 t263 t264).bind fun t266 => (some t266)) = some r := H
    have A4 := Aside0.mk A40
    clear A40
    replace H := Option.bind_eq_some_iff.mp H
    obtain ⟨t266, A50, H⟩ := H
    replace H : (some t266) = some r := H
    have A5 := Aside0.mk A50
    clear A50
    obtain rfl := Option.some.inj H
    go_enter Try.func41, Try.ntmps41
    go_wp2_with (first | ((with_reducible refine gate_dst (N := 1) rfl ?_); refine box_event ?hg (N := 1) ?hd (cs := #[.int .i64 a0_0, .int .i64 a0_1, .int .i64 a0_2, .int .i64 a0_3, .string a0_4, .float .f64 bv0_5]) (t := 30) ?hr ?_; (case hd => rfl); (case hg => rfl); (case hr => first | (go_simp; done) | (go_simp; rfl)); intro gb259 hg w6 hbox hb; have n0_ := Aside0.mk (below_step (by repeat (first | (with_reducible first | exact HB.out | apply below_alloc | apply pw_below_drewN | apply below_drew1) | exact HB.out)) hb); have n1_ := Aside0.mk (hbox); have n2_ := Aside0.mk ((by rw [hg]; exact (below_size (by repeat (first | (with_reducible first | exact HB.out | apply below_alloc | apply pw_below_drewN | apply below_drew1) | exact HB.out))) : w.heap.size ≤ gb259)); have n3_ := Aside0.mk ((by rw [hg]; exact (below_size (by repeat (first | (with_reducible first | exact HB.out | apply below_alloc | apply pw_below_drewN | apply below_drew1) | exact HB.out))) : w.heap.size ≤ gb259)); clear HB; have HB := n0_; have BK259 := n1_; have GW259 := n2_; have GE259 := n3_; clear n0_ n1_ n2_ n3_; clear hb hbox hg; have hcz7_0 : w6.cell? ⟨gb259, 0, none⟩ = some (.int .i64 a0_0) := (blk_cell BK259.out 0).trans rfl; have hcz7_1 : w6.cell? ⟨gb259, 1, none⟩ = some (.int .i64 a0_1) := (blk_cell BK259.out 1).trans rfl; have hcz7_2 : w6.cell? ⟨gb259, 2, none⟩ = some (.int .i64 a0_2) := (blk_cell BK259.out 2).trans rfl; have hcz7_3 : w6.cell? ⟨gb259, 3, none⟩ = some (.int .i64 a0_3) := (blk_cell BK259.out 3).trans rfl; have hcz7_4 : w6.cell? ⟨gb259, 4, none⟩ = some (.string a0_4) := (blk_cell BK259.out 4).trans rfl; have hcz7_5 : w6.cell? ⟨gb259, 5, none⟩ = some (.float .f64 bv0_5) := (blk_cell BK259.out 5).trans rfl; have hfz7_0 := blk_frozen BK259.out 0; have hfz7_1 := blk_frozen BK259.out 1; have hfz7_2 := blk_frozen BK259.out 2; have hfz7_3 := blk_frozen BK259.out 3; have hfz7_4 := blk_frozen BK259.out 4; have hfz7_5 := blk_frozen BK259.out 5) | ((with_reducible refine gate_callee (f := 72) rfl ?_); refine goesL_ (some 5) rfl rfl Try.func72 (by kernel_rfl) rfl #[.agg #[.int .i64 a0_0, .int .i64 a0_1]] rfl (by (try simp only [List.map_toArray, List.map_cons, List.map_nil]); first | done | rfl | (simp only [List.length_drop, List.length_take]; rfl)) ?_; (with_reducible refine (bonsairef13_Time.calls a0_0 a0_1 true _ A2.out).mono ?_); rintro e w8 ⟨rfl, hb⟩; refine ⟨_, rfl, ?_⟩; have n0_ := Aside0.mk (blk_below (g := gb259) (o := .cells #[.int .i64 a0_0, .int .i64 a0_1, .int .i64 a0_2, .int .i64 a0_3, .string a0_4, .float .f64 bv0_5] 30 (0, 0)) (by (with_reducible repeat (first | refine blk_drewN ?_ _ | refine blk_drew ?_ | refine blk_alloc ?_ _)); exact BK259.out) hb); have n1_ := Aside0.mk (below_step (by repeat (first | (with_reducible first | exact HB.out | apply below_alloc | apply pw_below_drewN | apply below_drew1 | refine below_set ?_ GE259.out) | exact HB.out)) hb); clear BK259; clear HB; have BK259 := n0_; have HB := n1_; clear n0_ n1_; (try clear hb); (try clear hb2); (try clear hk); (try clear hi); have hcz9_0 : w8.cell? ⟨gb259, 0, none⟩ = some (.int .i64 a0_0) := (blk_cell BK259.out 0).trans rfl; have hcz9_1 : w8.cell? ⟨gb259, 1, none⟩ = some (.int .i64 a0_1) := (blk_cell BK259.out 1).trans rfl; have hcz9_2 : w8.cell? ⟨gb259, 2, none⟩ = some (.int .i64 a0_2) := (blk_cell BK259.out 2).trans rfl; have hcz9_3 : w8.cell? ⟨gb259, 3, none⟩ = some (.int .i64 a0_3) := (blk_cell BK259.out 3).trans rfl; have hcz9_4 : w8.cell? ⟨gb259, 4, none⟩ = some (.string a0_4) := (blk_cell BK259.out 4).trans rfl; have hcz9_5 : w8.cell? ⟨gb259, 5, none⟩ = some (.float .f64 bv0_5) := (blk_cell BK259.out 5).trans rfl; have hfz9_0 := blk_frozen BK259.out 0; have hfz9_1 := blk_frozen BK259.out 1; have hfz9_2 := blk_frozen BK259.out 2; have hfz9_3 := blk_frozen BK259.out 3; have hfz9_4 := blk_frozen BK259.out 4; have hfz9_5 := blk_frozen BK259.out 5) | (go_at_call 74; (with_reducible refine (bonsairef13_Row.calls a0_0 a0_1 a0_2 a0_3 a0_4 _ a0_5 t261 t262 t263 t264 _ ?side1 A4.out).mono ?_); (case side1 => exact (by first | assumption | exact FB_lit _ _ rfl | exact FB_int _ | simpa using (by assumption))); rintro e w10 ⟨bv265, rfl, bq265, hb⟩; have n0_ := Aside0.mk (blk_below (g := gb259) (o := .cells #[.int .i64 a0_0, .int .i64 a0_1, .int .i64 a0_2, .int .i64 a0_3, .string a0_4, .float .f64 bv0_5] 30 (0, 0)) (by (with_reducible repeat (first | refine blk_drewN ?_ _ | refine blk_drew ?_ | refine blk_alloc ?_ _)); exact BK259.out) hb); have n1_ := Aside0.mk (below_step (by repeat (first | (with_reducible first | exact HB.out | apply below_alloc | apply pw_below_drewN | apply below_drew1 | refine below_set ?_ GE259.out) | exact HB.out)) hb); clear BK259; clear HB; have BK259 := n0_; have HB := n1_; clear n0_ n1_; (try clear hb); (try clear hb2); (try clear hk); (try clear hi)) | (go_at_call 73; (with_reducible refine (bonsairef12_One.calls k t261 t262 t263 _ t264 t266 _ ?side1 A5.out).mono ?_); (case side1 => exact (by first | assumption | exact FB_lit _ _ rfl | exact FB_int _ | simpa using (by assumption))); rintro e w11 ⟨rfl, hb⟩; have n0_ := Aside0.mk (blk_below (g := gb259) (o := .cells #[.int .i64 a0_0, .int .i64 a0_1, .int .i64 a0_2, .int .i64 a0_3, .string a0_4, .float .f64 bv0_5] 30 (0, 0)) (by (with_reducible repeat (first | refine blk_drewN ?_ _ | refine blk_drew ?_ | refine blk_alloc ?_ _)); exact BK259.out) hb); have n1_ := Aside0.mk (below_step (by repeat (first | (with_reducible first | exact HB.out | apply below_alloc | apply pw_below_drewN | apply below_drew1 | refine below_set ?_ GE259.out) | exact HB.out)) hb); clear BK259; clear HB; have BK259 := n0_; have HB := n1_; clear n0_ n1_; (try clear hb); (try clear hb2); (try clear hk); (try clear hi)))
    go_ret
    exact ⟨by first | rfl | (simp [errW_none, errW_some] <;> rfl) | (simp [*, errW_none, errW_some] <;> rfl), by repeat (first | (with_reducible first | exact HB.out | apply below_alloc | apply pw_below_drewN | apply below_drew1 | refine below_set ?_ GE259.out) | exact HB.out)⟩
  · replace c3 := Bool.eq_false_iff.mpr c3
    subst c3
    have H1 : (some false) = some r := by rw [if_neg (show ¬ (false = true) by decide)] at H; exact H
    clear H
    have H := H1
    clear H1
    obtain rfl := Option.some.inj H
    go_enter Try.func41, Try.ntmps41
    go_wp2_with (first | ((with_reducible refine gate_dst (N := 1) rfl ?_); refine box_event ?hg (N := 1) ?hd (cs := #[.int .i64 a0_0, .int .i64 a0_1, .int .i64 a0_2, .int .i64 a0_3, .string a0_4, .float .f64 bv0_5]) (t := 30) ?hr ?_; (case hd => rfl); (case hg => rfl); (case hr => first | (go_simp; done) | (go_simp; rfl)); intro gb259 hg w12 hbox hb; have n0_ := Aside0.mk (below_step (by repeat (first | (with_reducible first | exact HB.out | apply below_alloc | apply pw_below_drewN | apply below_drew1) | exact HB.out)) hb); have n1_ := Aside0.mk (hbox); have n2_ := Aside0.mk ((by rw [hg]; exact (below_size (by repeat (first | (with_reducible first | exact HB.out | apply below_alloc | apply pw_below_drewN | apply below_drew1) | exact HB.out))) : w.heap.size ≤ gb259)); have n3_ := Aside0.mk ((by rw [hg]; exact (below_size (by repeat (first | (with_reducible first | exact HB.out | apply below_alloc | apply pw_below_drewN | apply below_drew1) | exact HB.out))) : w.heap.size ≤ gb259)); clear HB; have HB := n0_; have BK259 := n1_; have GW259 := n2_; have GE259 := n3_; clear n0_ n1_ n2_ n3_; clear hb hbox hg; have hcz13_0 : w12.cell? ⟨gb259, 0, none⟩ = some (.int .i64 a0_0) := (blk_cell BK259.out 0).trans rfl; have hcz13_1 : w12.cell? ⟨gb259, 1, none⟩ = some (.int .i64 a0_1) := (blk_cell BK259.out 1).trans rfl; have hcz13_2 : w12.cell? ⟨gb259, 2, none⟩ = some (.int .i64 a0_2) := (blk_cell BK259.out 2).trans rfl; have hcz13_3 : w12.cell? ⟨gb259, 3, none⟩ = some (.int .i64 a0_3) := (blk_cell BK259.out 3).trans rfl; have hcz13_4 : w12.cell? ⟨gb259, 4, none⟩ = some (.string a0_4) := (blk_cell BK259.out 4).trans rfl; have hcz13_5 : w12.cell? ⟨gb259, 5, none⟩ = some (.float .f64 bv0_5) := (blk_cell BK259.out 5).trans rfl; have hfz13_0 := blk_frozen BK259.out 0; have hfz13_1 := blk_frozen BK259.out 1; have hfz13_2 := blk_frozen BK259.out 2; have hfz13_3 := blk_frozen BK259.out 3; have hfz13_4 := blk_frozen BK259.out 4; have hfz13_5 := blk_frozen BK259.out 5) | ((with_reducible refine gate_callee (f := 72) rfl ?_); refine goesL_ (some 5) rfl rfl Try.func72 (by kernel_rfl) rfl #[.agg #[.int .i64 a0_0, .int .i64 a0_1]] rfl (by (try simp only [List.map_toArray, List.map_cons, List.map_nil]); first | done | rfl | (simp only [List.length_drop, List.length_take]; rfl)) ?_; (with_reducible refine (bonsairef13_Time.calls a0_0 a0_1 false _ A2.out).mono ?_); rintro e w14 ⟨rfl, hb⟩; refine ⟨_, rfl, ?_⟩; have n0_ := Aside0.mk (blk_below (g := gb259) (o := .cells #[.int .i64 a0_0, .int .i64 a0_1, .int .i64 a0_2, .int .i64 a0_3, .string a0_4, .float .f64 bv0_5] 30 (0, 0)) (by (with_reducible repeat (first | refine blk_drewN ?_ _ | refine blk_drew ?_ | refine blk_alloc ?_ _)); exact BK259.out) hb); have n1_ := Aside0.mk (below_step (by repeat (first | (with_reducible first | exact HB.out | apply below_alloc | apply pw_below_drewN | apply below_drew1 | refine below_set ?_ GE259.out) | exact HB.out)) hb); clear BK259; clear HB; have BK259 := n0_; have HB := n1_; clear n0_ n1_; (try clear hb); (try clear hb2); (try clear hk); (try clear hi)))
    go_ret
    exact ⟨by first | rfl | (simp [errW_none, errW_some] <;> rfl) | (simp [*, errW_none, errW_some] <;> rfl), by repeat (first | (with_reducible first | exact HB.out | apply below_alloc | apply pw_below_drewN | apply below_drew1 | refine below_set ?_ GE259.out) | exact HB.out)⟩
def bonsairef02_Before.f (a0_0 : Int) (a0_1 : Int) (a1_0 : Int) (a1_1 : Int) : Option (Bool) := if a0_0 < a1_0 then (some true) else (if a0_0 = a1_0 then (some (decide (a0_1 < a1_1))) else (some false))
set_option maxHeartbeats 8000000 in
set_option maxRecDepth 100000 in
theorem bonsairef02_Before.calls (a0_0 : Int) (a0_1 : Int) (a1_0 : Int) (a1_1 : Int) (r : Bool) (w : World) (h : bonsairef02_Before.f a0_0 a0_1 a1_0 a1_1 = some r) :
    Calls Try.prog 42 #[.agg #[.int .i64 a0_0, .int .i64 a0_1], .agg #[.int .i64 a1_0, .int .i64 a1_1]] w fun e w' => e = .returned (.bool r) ∧ Below w.heap.size w w' := by
  have hu27 := Try.underlying27
  have HB := Aside0.mk (Below.refl w.heap.size w)
  have H : (if a0_0 < a1_0 then (some true) else (if a0_0 = a1_0 then (some (decide (a0_1 < a1_1))) else (some false))) = some r := h
  clear h
  by_cases c3 : a0_0 < a1_0
  · rw [if_pos c3] at H
    have c3b0 : decide (a0_0 < a1_0) = true := decide_eq_true c3
    clear c3
    obtain rfl := Option.some.inj H
    go_enter Try.func42, Try.ntmps42
    go_wp2_with (first | ((with_reducible refine gate_dst (N := 2) rfl ?_); refine box_event ?hg (N := 2) ?hd (cs := #[.int .i64 a0_0, .int .i64 a0_1]) (t := 27) ?hr ?_; (case hd => rfl); (case hg => rfl); (case hr => first | (go_simp; done) | (go_simp; rfl)); intro gb267 hg w4 hbox hb; have n0_ := Aside0.mk (below_step (by repeat (first | (with_reducible first | exact HB.out | apply below_alloc | apply pw_below_drewN | apply below_drew1) | exact HB.out)) hb); have n1_ := Aside0.mk (hbox); have n2_ := Aside0.mk ((by rw [hg]; exact (below_size (by repeat (first | (with_reducible first | exact HB.out | apply below_alloc | apply pw_below_drewN | apply below_drew1) | exact HB.out))) : w.heap.size ≤ gb267)); have n3_ := Aside0.mk ((by rw [hg]; exact (below_size (by repeat (first | (with_reducible first | exact HB.out | apply below_alloc | apply pw_below_drewN | apply below_drew1) | exact HB.out))) : w.heap.size ≤ gb267)); clear HB; have HB := n0_; have BK267 := n1_; have GW267 := n2_; have GE267 := n3_; clear n0_ n1_ n2_ n3_; clear hb hbox hg) | ((with_reducible refine gate_dst (N := 3) rfl ?_); refine box_event ?hg (N := 3) ?hd (cs := #[.int .i64 a1_0, .int .i64 a1_1]) (t := 27) ?hr ?_; (case hd => rfl); (case hg => rfl); (case hr => first | (go_simp; done) | (go_simp; rfl)); intro gb268 hg w5 hbox hb; have n0_ := Aside0.mk (blk_below (g := gb267) (o := .cells #[.int .i64 a0_0, .int .i64 a0_1] 27 (0, 0)) (by (with_reducible repeat (first | refine blk_drewN ?_ _ | refine blk_drew ?_ | refine blk_alloc ?_ _)); exact BK267.out) hb); have n1_ := Aside0.mk (below_step (by repeat (first | (with_reducible first | exact HB.out | apply below_alloc | apply pw_below_drewN | apply below_drew1 | refine below_set ?_ GE267.out) | exact HB.out)) hb); have n2_ := Aside0.mk (hbox); have n3_ := Aside0.mk ((by rw [hg]; exact (below_size (by repeat (first | (with_reducible first | exact HB.out | apply below_alloc | apply pw_below_drewN | apply below_drew1 | refine below_set ?_ GE267.out) | exact HB.out))) : w.heap.size ≤ gb268)); have n4_ := Aside0.mk ((by rw [hg]; exact (below_size (by repeat (first | (with_reducible first | exact HB.out | apply below_alloc | apply pw_below_drewN | apply below_drew1 | refine below_set ?_ GE267.out) | exact HB.out))) : w.heap.size ≤ gb268)); have n5_ := Aside0.mk ((by rw [hg]; exact Nat.ne_of_lt (blk_lt (g := gb267) (o := .cells #[.int .i64 a0_0, .int .i64 a0_1] 27 (0, 0)) (by (with_reducible repeat (first | refine blk_drewN ?_ _ | refine blk_drew ?_ | refine blk_alloc ?_ _)); exact BK267.out)) : gb267 ≠ gb268)); have n6_ := Aside0.mk ((by rw [hg]; exact Nat.ne_of_gt (blk_lt (g := gb267) (o := .cells #[.int .i64 a0_0, .int .i64 a0_1] 27 (0, 0)) (by (with_reducible repeat (first | refine blk_drewN ?_ _ | refine blk_drew ?_ | refine blk_alloc ?_ _)); exact BK267.out)) : gb268 ≠ gb267)); clear BK267; clear HB; have BK267 := n0_; have HB := n1_; have BK268 := n2_; have GW268 := n3_; have GE268 := n4_; have NB267_268 := n5_; have NB268_267 := n6_; clear n0_ n1_ n2_ n3_ n4_ n5_ n6_; clear hb hbox hg; have hnb6 := NB267_268.out; have hnc6 := NB268_267.out; have hcz7_0 : w5.cell? ⟨gb267, 0, none⟩ = some (.int .i64 a0_0) := (blk_cell BK267.out 0).trans rfl; have hcz7_1 : w5.cell? ⟨gb267, 1, none⟩ = some (.int .i64 a0_1) := (blk_cell BK267.out 1).trans rfl; have hfz7_0 := blk_frozen BK267.out 0; have hfz7_1 := blk_frozen BK267.out 1; have hcz8_0 : w5.cell? ⟨gb268, 0, none⟩ = some (.int .i64 a1_0) := (blk_cell BK268.out 0).trans rfl; have hcz8_1 : w5.cell? ⟨gb268, 1, none⟩ = some (.int .i64 a1_1) := (blk_cell BK268.out 1).trans rfl; have hfz8_0 := blk_frozen BK268.out 0; have hfz8_1 := blk_frozen BK268.out 1))
    go_ret
    exact ⟨by first | rfl | (simp [errW_none, errW_some] <;> rfl) | (simp [*, errW_none, errW_some] <;> rfl), by repeat (first | (with_reducible first | exact HB.out | apply below_alloc | apply pw_below_drewN | apply below_drew1 | refine below_set ?_ GE267.out | refine below_set ?_ GE268.out) | exact HB.out)⟩
  · rw [if_neg c3] at H
    have c3b0 : decide (a0_0 < a1_0) = false := decide_eq_false c3
    clear c3
    by_cases c9 : a0_0 = a1_0
    · rw [if_pos c9] at H
      have c9b0 : (a0_0 == a1_0) = true := beq_iff_eq.mpr c9
      have c9b1 : (a0_0 != a1_0) = false := bne_eq_false_iff_eq.mpr c9
      clear c9
      obtain rfl := Option.some.inj H
      go_enter Try.func42, Try.ntmps42
      go_wp2_with (first | ((with_reducible refine gate_dst (N := 2) rfl ?_); refine box_event ?hg (N := 2) ?hd (cs := #[.int .i64 a0_0, .int .i64 a0_1]) (t := 27) ?hr ?_; (case hd => rfl); (case hg => rfl); (case hr => first | (go_simp; done) | (go_simp; rfl)); intro gb267 hg w10 hbox hb; have n0_ := Aside0.mk (below_step (by repeat (first | (with_reducible first | exact HB.out | apply below_alloc | apply pw_below_drewN | apply below_drew1) | exact HB.out)) hb); have n1_ := Aside0.mk (hbox); have n2_ := Aside0.mk ((by rw [hg]; exact (below_size (by repeat (first | (with_reducible first | exact HB.out | apply below_alloc | apply pw_below_drewN | apply below_drew1) | exact HB.out))) : w.heap.size ≤ gb267)); have n3_ := Aside0.mk ((by rw [hg]; exact (below_size (by repeat (first | (with_reducible first | exact HB.out | apply below_alloc | apply pw_below_drewN | apply below_drew1) | exact HB.out))) : w.heap.size ≤ gb267)); clear HB; have HB := n0_; have BK267 := n1_; have GW267 := n2_; have GE267 := n3_; clear n0_ n1_ n2_ n3_; clear hb hbox hg) | ((with_reducible refine gate_dst (N := 3) rfl ?_); refine box_event ?hg (N := 3) ?hd (cs := #[.int .i64 a1_0, .int .i64 a1_1]) (t := 27) ?hr ?_; (case hd => rfl); (case hg => rfl); (case hr => first | (go_simp; done) | (go_simp; rfl)); intro gb268 hg w11 hbox hb; have n0_ := Aside0.mk (blk_below (g := gb267) (o := .cells #[.int .i64 a0_0, .int .i64 a0_1] 27 (0, 0)) (by (with_reducible repeat (first | refine blk_drewN ?_ _ | refine blk_drew ?_ | refine blk_alloc ?_ _)); exact BK267.out) hb); have n1_ := Aside0.mk (below_step (by repeat (first | (with_reducible first | exact HB.out | apply below_alloc | apply pw_below_drewN | apply below_drew1 | refine below_set ?_ GE267.out) | exact HB.out)) hb); have n2_ := Aside0.mk (hbox); have n3_ := Aside0.mk ((by rw [hg]; exact (below_size (by repeat (first | (with_reducible first | exact HB.out | apply below_alloc | apply pw_below_drewN | apply below_drew1 | refine below_set ?_ GE267.out) | exact HB.out))) : w.heap.size ≤ gb268)); have n4_ := Aside0.mk ((by rw [hg]; exact (below_size (by repeat (first | (with_reducible first | exact HB.out | apply below_alloc | apply pw_below_drewN | apply below_drew1 | refine below_set ?_ GE267.out) | exact HB.out))) : w.heap.size ≤ gb268)); have n5_ := Aside0.mk ((by rw [hg]; exact Nat.ne_of_lt (blk_lt (g := gb267) (o := .cells #[.int .i64 a0_0, .int .i64 a0_1] 27 (0, 0)) (by (with_reducible repeat (first | refine blk_drewN ?_ _ | refine blk_drew ?_ | refine blk_alloc ?_ _)); exact BK267.out)) : gb267 ≠ gb268)); have n6_ := Aside0.mk ((by rw [hg]; exact Nat.ne_of_gt (blk_lt (g := gb267) (o := .cells #[.int .i64 a0_0, .int .i64 a0_1] 27 (0, 0)) (by (with_reducible repeat (first | refine blk_drewN ?_ _ | refine blk_drew ?_ | refine blk_alloc ?_ _)); exact BK267.out)) : gb268 ≠ gb267)); clear BK267; clear HB; have BK267 := n0_; have HB := n1_; have BK268 := n2_; have GW268 := n3_; have GE268 := n4_; have NB267_268 := n5_; have NB268_267 := n6_; clear n0_ n1_ n2_ n3_ n4_ n5_ n6_; clear hb hbox hg; have hnb12 := NB267_268.out; have hnc12 := NB268_267.out; have hcz13_0 : w11.cell? ⟨gb267, 0, none⟩ = some (.int .i64 a0_0) := (blk_cell BK267.out 0).trans rfl; have hcz13_1 : w11.cell? ⟨gb267, 1, none⟩ = some (.int .i64 a0_1) := (blk_cell BK267.out 1).trans rfl; have hfz13_0 := blk_frozen BK267.out 0; have hfz13_1 := blk_frozen BK267.out 1; have hcz14_0 : w11.cell? ⟨gb268, 0, none⟩ = some (.int .i64 a1_0) := (blk_cell BK268.out 0).trans rfl; have hcz14_1 : w11.cell? ⟨gb268, 1, none⟩ = some (.int .i64 a1_1) := (blk_cell BK268.out 1).trans rfl; have hfz14_0 := blk_frozen BK268.out 0; have hfz14_1 := blk_frozen BK268.out 1))
      go_ret
      exact ⟨by first | rfl | (simp [errW_none, errW_some] <;> rfl) | (simp [*, errW_none, errW_some] <;> rfl), by repeat (first | (with_reducible first | exact HB.out | apply below_alloc | apply pw_below_drewN | apply below_drew1 | refine below_set ?_ GE267.out | refine below_set ?_ GE268.out) | exact HB.out)⟩
    · rw [if_neg c9] at H
      have c9b0 : (a0_0 == a1_0) = false := beq_eq_false_iff_ne.mpr c9
      have c9b1 : (a0_0 != a1_0) = true := bne_iff_ne.mpr c9
      obtain rfl := Option.some.inj H
      go_enter Try.func42, Try.ntmps42
      go_wp2_with (first | ((with_reducible refine gate_dst (N := 2) rfl ?_); refine box_event ?hg (N := 2) ?hd (cs := #[.int .i64 a0_0, .int .i64 a0_1]) (t := 27) ?hr ?_; (case hd => rfl); (case hg => rfl); (case hr => first | (go_simp; done) | (go_simp; rfl)); intro gb267 hg w15 hbox hb; have n0_ := Aside0.mk (below_step (by repeat (first | (with_reducible first | exact HB.out | apply below_alloc | apply pw_below_drewN | apply below_drew1) | exact HB.out)) hb); have n1_ := Aside0.mk (hbox); have n2_ := Aside0.mk ((by rw [hg]; exact (below_size (by repeat (first | (with_reducible first | exact HB.out | apply below_alloc | apply pw_below_drewN | apply below_drew1) | exact HB.out))) : w.heap.size ≤ gb267)); have n3_ := Aside0.mk ((by rw [hg]; exact (below_size (by repeat (first | (with_reducible first | exact HB.out | apply below_alloc | apply pw_below_drewN | apply below_drew1) | exact HB.out))) : w.heap.size ≤ gb267)); clear HB; have HB := n0_; have BK267 := n1_; have GW267 := n2_; have GE267 := n3_; clear n0_ n1_ n2_ n3_; clear hb hbox hg) | ((with_reducible refine gate_dst (N := 3) rfl ?_); refine box_event ?hg (N := 3) ?hd (cs := #[.int .i64 a1_0, .int .i64 a1_1]) (t := 27) ?hr ?_; (case hd => rfl); (case hg => rfl); (case hr => first | (go_simp; done) | (go_simp; rfl)); intro gb268 hg w16 hbox hb; have n0_ := Aside0.mk (blk_below (g := gb267) (o := .cells #[.int .i64 a0_0, .int .i64 a0_1] 27 (0, 0)) (by (with_reducible repeat (first | refine blk_drewN ?_ _ | refine blk_drew ?_ | refine blk_alloc ?_ _)); exact BK267.out) hb); have n1_ := Aside0.mk (below_step (by repeat (first | (with_reducible first | exact HB.out | apply below_alloc | apply pw_below_drewN | apply below_drew1 | refine below_set ?_ GE267.out) | exact HB.out)) hb); have n2_ := Aside0.mk (hbox); have n3_ := Aside0.mk ((by rw [hg]; exact (below_size (by repeat (first | (with_reducible first | exact HB.out | apply below_alloc | apply pw_below_drewN | apply below_drew1 | refine below_set ?_ GE267.out) | exact HB.out))) : w.heap.size ≤ gb268)); have n4_ := Aside0.mk ((by rw [hg]; exact (below_size (by repeat (first | (with_reducible first | exact HB.out | apply below_alloc | apply pw_below_drewN | apply below_drew1 | refine below_set ?_ GE267.out) | exact HB.out))) : w.heap.size ≤ gb268)); have n5_ := Aside0.mk ((by rw [hg]; exact Nat.ne_of_lt (blk_lt (g := gb267) (o := .cells #[.int .i64 a0_0, .int .i64 a0_1] 27 (0, 0)) (by (with_reducible repeat (first | refine blk_drewN ?_ _ | refine blk_drew ?_ | refine blk_alloc ?_ _)); exact BK267.out)) : gb267 ≠ gb268)); have n6_ := Aside0.mk ((by rw [hg]; exact Nat.ne_of_gt (blk_lt (g := gb267) (o := .cells #[.int .i64 a0_0, .int .i64 a0_1] 27 (0, 0)) (by (with_reducible repeat (first | refine blk_drewN ?_ _ | refine blk_drew ?_ | refine blk_alloc ?_ _)); exact BK267.out)) : gb268 ≠ gb267)); clear BK267; clear HB; have BK267 := n0_; have HB := n1_; have BK268 := n2_; have GW268 := n3_; have GE268 := n4_; have NB267_268 := n5_; have NB268_267 := n6_; clear n0_ n1_ n2_ n3_ n4_ n5_ n6_; clear hb hbox hg; have hnb17 := NB267_268.out; have hnc17 := NB268_267.out; have hcz18_0 : w16.cell? ⟨gb267, 0, none⟩ = some (.int .i64 a0_0) := (blk_cell BK267.out 0).trans rfl; have hcz18_1 : w16.cell? ⟨gb267, 1, none⟩ = some (.int .i64 a0_1) := (blk_cell BK267.out 1).trans rfl; have hfz18_0 := blk_frozen BK267.out 0; have hfz18_1 := blk_frozen BK267.out 1; have hcz19_0 : w16.cell? ⟨gb268, 0, none⟩ = some (.int .i64 a1_0) := (blk_cell BK268.out 0).trans rfl; have hcz19_1 : w16.cell? ⟨gb268, 1, none⟩ = some (.int .i64 a1_1) := (blk_cell BK268.out 1).trans rfl; have hfz19_0 := blk_frozen BK268.out 0; have hfz19_1 := blk_frozen BK268.out 1))
      go_ret
      exact ⟨by first | rfl | (simp [errW_none, errW_some] <;> rfl) | (simp [*, errW_none, errW_some] <;> rfl), by repeat (first | (with_reducible first | exact HB.out | apply below_alloc | apply pw_below_drewN | apply below_drew1 | refine below_set ?_ GE267.out | refine below_set ?_ GE268.out) | exact HB.out)⟩
end Go.Proofs.Ytfgnjndfnijjoaa.Print
end
