/- Written by a program of this session (a turned print). Each Go function has a Lean function with the same answers, and a proof that the Go code comes to these. -/
import Derived.Test.YtbgjoiccehiglaaPrint0
import Derived.Test.YtbgjoiccehiglaaPrint2
import Derived.Test.YtbgjoiccehiglaaPrint3
namespace Go.Proofs.Ytbgjoiccehiglaa.Print
open Go.RowKit Go.Proofs.YtbgjoiccehiglaaW.PrintWords Go.Proofs.YtbgjoiccehiglaaW.PrintLast Go.Proofs.YtbgjoiccehiglaaW.PrintMore
attribute [local go_sem] max2_int min2_int max_two min_two max_three min_three max_four min_four   -- for this text's walks alone
set_option linter.unusedVariables false
set_option linter.unusedSimpArgs false

/-! ### bonsailaw04_live: function 24 -/
def bonsailaw04_live.f (k : Nat)  : Option (Bool) := (word_First.f (⟨#[97, 255]⟩ : ByteArray)).bind fun bt137 => ((word_First.f (⟨#[195, 164, 226, 130, 172]⟩ : ByteArray)).bind fun bt139 => ((word_Count.f (⟨#[97, 195, 164, 226, 130, 172]⟩ : ByteArray)).bind fun bt141 => ((word_Take.f k (⟨#[120, 2, 195, 164, 121]⟩ : ByteArray) 1 9).bind fun bt143 => ((word_Take.f k (⟨#[2, 195, 121]⟩ : ByteArray) 0 9).bind fun bt146 => ((word_Take.f k (⟨#[2, 97, 98]⟩ : ByteArray) 0 1).bind fun bt149 => ((word_Take.f k (⟨#[5, 97, 98]⟩ : ByteArray) 0 9).bind fun bt152 => ((word_Take.f k (⟨#[]⟩ : ByteArray) 1 9).bind fun bt155 => (if bt137.1 = 1 then (if bt137.2 = true then (if bt139.2 = true then (none) else ((word_Valid.f (⟨#[]⟩ : ByteArray)).bind fun t158 => (if t158 = true then ((word_Valid.f (⟨#[192, 128]⟩ : ByteArray)).bind fun t159 => (if t159 = true then (none) else ((word_Valid.f (⟨#[237, 160, 128]⟩ : ByteArray)).bind fun t160 => (if t160 = true then (none) else (if bt141.1 = 3 then (if bt141.2 = true then ((word_Cut.f (⟨#[97, 195, 164]⟩ : ByteArray) 2).bind fun t161 => (if t161.toList = ([97] : List UInt8) then ((word_Cut.f (⟨#[97, 195, 164]⟩ : ByteArray) 3).bind fun t162 => (if t162.toList = ([97, 195, 164] : List UInt8) then ((word_Put.f k (⟨#[97, 98]⟩ : ByteArray)).bind fun t163 => (if t163.toList = ([2, 97, 98] : List UInt8) then (if bt143.1.toList = ([195, 164] : List UInt8) then (if bt143.2.1 = 4 then (if bt143.2.2 = 0 then (if bt146.2.2 = 4 then (if bt149.2.2 = 10 then (if bt152.2.2 = 2 then (some (bt155.2.2 == 1)) else (none)) else (none)) else (none)) else (none)) else (none)) else (none)) else (none))) else (none))) else (none))) else (none)) else (none)))))) else (none)))) else (none)) else (none)))))))))
theorem bonsailaw04_live.mono : ∀ k, LeO (bonsailaw04_live.f k ) (bonsailaw04_live.f (k + 1) ) := by
  intro  k
  unfold bonsailaw04_live.f
  repeat' first
      | (with_reducible exact word_Put.mono _ _)
      | (with_reducible exact word_Take.mono _ _ _ _)
      | (with_reducible exact LeO.refl _)
      | (with_reducible exact LeO.none _)
      | (with_reducible refine LeO.ite ?_ ?_)
      | (with_reducible refine LeO.bind ?_ (fun _ => ?_))
      | exact word_Put.mono _ _
      | exact word_Take.mono _ _ _ _
      | exact LeO.none _
      | refine LeO.ite ?_ ?_
      | refine LeO.bind ?_ (fun _ => ?_)
set_option maxHeartbeats 8000000 in
set_option maxRecDepth 100000 in
theorem bonsailaw04_live.calls (k : Nat)  (r : Bool) (w : World) (h : bonsailaw04_live.f k  = some r) :
    Calls Try.prog 24 #[] w fun e w' => e = .returned (.bool r) ∧ Below w.heap.size w w' := by
  have HB := Aside0.mk (Below.refl w.heap.size w)
  have H : ((word_First.f (⟨#[97, 255]⟩ : ByteArray)).bind fun bt137 => ((word_First.f (⟨#[195, 164, 226, 130, 172]⟩ : ByteArray)).bind fun bt139 => ((word_Count.f (⟨#[97, 195, 164, 226, 130, 172]⟩ : ByteArray)).bind fun bt141 => ((word_Take.f k (⟨#[120, 2, 195, 164, 121]⟩ : ByteArray) 1 9).bind fun bt143 => ((word_Take.f k (⟨#[2, 195, 121]⟩ : ByteArray) 0 9).bind fun bt146 => ((word_Take.f k (⟨#[2, 97, 98]⟩ : ByteArray) 0 1).bind fun bt149 => ((word_Take.f k (⟨#[5, 97, 98]⟩ : ByteArray) 0 9).bind fun bt152 => ((word_Take.f k (⟨#[]⟩ : ByteArray) 1 9).bind fun bt155 => (if bt137.1 = 1 then (if bt137.2 = true then (if bt139.2 = true then (none) else ((word_Valid.f (⟨#[]⟩ : ByteArray)).bind fun t158 => (if t158 = true then ((word_Valid.f (⟨#[192, 128]⟩ : ByteArray)).bind fun t159 => (if t159 = true then (none) else ((word_Valid.f (⟨#[237, 160, 128]⟩ : ByteArray)).bind fun t160 => (if t160 = true then (none) else (if bt141.1 = 3 then (if bt141.2 = true then ((word_Cut.f (⟨#[97, 195, 164]⟩ : ByteArray) 2).bind fun t161 => (if t161.toList = ([97] : List UInt8) then ((word_Cut.f (⟨#[97, 195, 164]⟩ : ByteArray) 3).bind fun t162 => (if t162.toList = ([97, 195, 164] : List UInt8) then ((word_Put.f k (⟨#[97, 98]⟩ : ByteArray)).bind fun t163 => (if t163.toList = ([2, 97, 98] : List UInt8) then (if bt143.1.toList = ([195, 164] : List UInt8) then (if bt143.2.1 = 4 then (if bt143.2.2 = 0 then (if bt146.2.2 = 4 then (if bt149.2.2 = 10 then (if bt152.2.2 = 2 then (some (bt155.2.2 == 1)) else (none)) else (none)) else (none)) else (none)) else (none)) else (none)) else (none))) else (none))) else (none))) else (none)) else (none)))))) else (none)))) else (none)) else (none)))))))))) = some r := h
  clear h
  replace H := Option.bind_eq_some_iff.mp H
  obtain ⟨⟨t137, t138⟩, A10, H⟩ := H
  replace H : ((word_First.f (⟨#[195, 164, 226, 130, 172]⟩ : ByteArray)).bind fun bt139 => ((word_Count.f (⟨#[97, 195, 164, 226, 130, 172]⟩ : ByteArray)).bind fun bt141 => ((word_Take.f k (⟨#[120, 2, 195, 164, 121]⟩ : ByteArray) 1 9).bind fun bt143 => ((word_Take.f k (⟨#[2, 195, 121]⟩ : ByteArray) 0 9).bind fun bt146 => ((word_Take.f k (⟨#[2, 97, 98]⟩ : ByteArray) 0 1).bind fun bt149 => ((word_Take.f k (⟨#[5, 97, 98]⟩ : ByteArray) 0 9).bind fun bt152 => ((word_Take.f k (⟨#[]⟩ : ByteArray) 1 9).bind fun bt155 => (if t137 = 1 then (if t138 = true then (if bt139.2 = true then (none) else ((word_Valid.f (⟨#[]⟩ : ByteArray)).bind fun t158 => (if t158 = true then ((word_Valid.f (⟨#[192, 128]⟩ : ByteArray)).bind fun t159 => (if t159 = true then (none) else ((word_Valid.f (⟨#[237, 160, 128]⟩ : ByteArray)).bind fun t160 => (if t160 = true then (none) else (if bt141.1 = 3 then (if bt141.2 = true then ((word_Cut.f (⟨#[97, 195, 164]⟩ : ByteArray) 2).bind fun t161 => (if t161.toList = ([97] : List UInt8) then ((word_Cut.f (⟨#[97, 195, 164]⟩ : ByteArray) 3).bind fun t162 => (if t162.toList = ([97, 195, 164] : List UInt8) then ((word_Put.f k (⟨#[97, 98]⟩ : ByteArray)).bind fun t163 => (if t163.toList = ([2, 97, 98] : List UInt8) then (if bt143.1.toList = ([195, 164] : List UInt8) then (if bt143.2.1 = 4 then (if bt143.2.2 = 0 then (if bt146.2.2 = 4 then (if bt149.2.2 = 10 then (if bt152.2.2 = 2 then (some (bt155.2.2 == 1)) else (none)) else (none)) else (none)) else (none)) else (none)) else (none)) else (none))) else (none))) else (none))) else (none)) else (none)))))) else (none)))) else (none)) else (none))))))))) = some r := H
  have A1 := Aside0.mk A10
  clear A10
  replace H := Option.bind_eq_some_iff.mp H
  obtain ⟨⟨t139, t140⟩, A20, H⟩ := H
  replace H : ((word_Count.f (⟨#[97, 195, 164, 226, 130, 172]⟩ : ByteArray)).bind fun bt141 => ((word_Take.f k (⟨#[120, 2, 195, 164, 121]⟩ : ByteArray) 1 9).bind fun bt143 => ((word_Take.f k (⟨#[2, 195, 121]⟩ : ByteArray) 0 9).bind fun bt146 => ((word_Take.f k (⟨#[2, 97, 98]⟩ : ByteArray) 0 1).bind fun bt149 => ((word_Take.f k (⟨#[5, 97, 98]⟩ : ByteArray) 0 9).bind fun bt152 => ((word_Take.f k (⟨#[]⟩ : ByteArray) 1 9).bind fun bt155 => (if t137 = 1 then (if t138 = true then (if t140 = true then (none) else ((word_Valid.f (⟨#[]⟩ : ByteArray)).bind fun t158 => (if t158 = true then ((word_Valid.f (⟨#[192, 128]⟩ : ByteArray)).bind fun t159 => (if t159 = true then (none) else ((word_Valid.f (⟨#[237, 160, 128]⟩ : ByteArray)).bind fun t160 => (if t160 = true then (none) else (if bt141.1 = 3 then (if bt141.2 = true then ((word_Cut.f (⟨#[97, 195, 164]⟩ : ByteArray) 2).bind fun t161 => (if t161.toList = ([97] : List UInt8) then ((word_Cut.f (⟨#[97, 195, 164]⟩ : ByteArray) 3).bind fun t162 => (if t162.toList = ([97, 195, 164] : List UInt8) then ((word_Put.f k (⟨#[97, 98]⟩ : ByteArray)).bind fun t163 => (if t163.toList = ([2, 97, 98] : List UInt8) then (if bt143.1.toList = ([195, 164] : List UInt8) then (if bt143.2.1 = 4 then (if bt143.2.2 = 0 then (if bt146.2.2 = 4 then (if bt149.2.2 = 10 then (if bt152.2.2 = 2 then (some (bt155.2.2 == 1)) else (none)) else (none)) else (none)) else (none)) else (none)) else (none)) else (none))) else (none))) else (none))) else (none)) else (none)))))) else (none)))) else (none)) else (none)))))))) = some r := H
  have A2 := Aside0.mk A20
  clear A20
  replace H := Option.bind_eq_some_iff.mp H
  obtain ⟨⟨t141, t142⟩, A30, H⟩ := H
  replace H : ((word_Take.f k (⟨#[120, 2, 195, 164, 121]⟩ : ByteArray) 1 9).bind fun bt143 => ((word_Take.f k (⟨#[2, 195, 121]⟩ : ByteArray) 0 9).bind fun bt146 => ((word_Take.f k (⟨#[2, 97, 98]⟩ : ByteArray) 0 1).bind fun bt149 => ((word_Take.f k (⟨#[5, 97, 98]⟩ : ByteArray) 0 9).bind fun bt152 => ((word_Take.f k (⟨#[]⟩ : ByteArray) 1 9).bind fun bt155 => (if t137 = 1 then (if t138 = true then (if t140 = true then (none) else ((word_Valid.f (⟨#[]⟩ : ByteArray)).bind fun t158 => (if t158 = true then ((word_Valid.f (⟨#[192, 128]⟩ : ByteArray)).bind fun t159 => (if t159 = true then (none) else ((word_Valid.f (⟨#[237, 160, 128]⟩ : ByteArray)).bind fun t160 => (if t160 = true then (none) else (if t141 = 3 then (if t142 = true then ((word_Cut.f (⟨#[97, 195, 164]⟩ : ByteArray) 2).bind fun t161 => (if t161.toList = ([97] : List UInt8) then ((word_Cut.f (⟨#[97, 195, 164]⟩ : ByteArray) 3).bind fun t162 => (if t162.toList = ([97, 195, 164] : List UInt8) then ((word_Put.f k (⟨#[97, 98]⟩ : ByteArray)).bind fun t163 => (if t163.toList = ([2, 97, 98] : List UInt8) then (if bt143.1.toList = ([195, 164] : List UInt8) then (if bt143.2.1 = 4 then (if bt143.2.2 = 0 then (if bt146.2.2 = 4 then (if bt149.2.2 = 10 then (if bt152.2.2 = 2 then (some (bt155.2.2 == 1)) else (none)) else (none)) else (none)) else (none)) else (none)) else (none)) else (none))) else (none))) else (none))) else (none)) else (none)))))) else (none)))) else (none)) else (none))))))) = some r := H
  have A3 := Aside0.mk A30
  clear A30
  replace H := Option.bind_eq_some_iff.mp H
  obtain ⟨⟨t143, t144, t145⟩, A40, H⟩ := H
  replace H : ((word_Take.f k (⟨#[2, 195, 121]⟩ : ByteArray) 0 9).bind fun bt146 => ((word_Take.f k (⟨#[2, 97, 98]⟩ : ByteArray) 0 1).bind fun bt149 => ((word_Take.f k (⟨#[5, 97, 98]⟩ : ByteArray) 0 9).bind fun bt152 => ((word_Take.f k (⟨#[]⟩ : ByteArray) 1 9).bind fun bt155 => (if t137 = 1 then (if t138 = true then (if t140 = true then (none) else ((word_Valid.f (⟨#[]⟩ : ByteArray)).bind fun t158 => (if t158 = true then ((word_Valid.f (⟨#[192, 128]⟩ : ByteArray)).bind fun t159 => (if t159 = true then (none) else ((word_Valid.f (⟨#[237, 160, 128]⟩ : ByteArray)).bind fun t160 => (if t160 = true then (none) else (if t141 = 3 then (if t142 = true then ((word_Cut.f (⟨#[97, 195, 164]⟩ : ByteArray) 2).bind fun t161 => (if t161.toList = ([97] : List UInt8) then ((word_Cut.f (⟨#[97, 195, 164]⟩ : ByteArray) 3).bind fun t162 => (if t162.toList = ([97, 195, 164] : List UInt8) then ((word_Put.f k (⟨#[97, 98]⟩ : ByteArray)).bind fun t163 => (if t163.toList = ([2, 97, 98] : List UInt8) then (if t143.toList = ([195, 164] : List UInt8) then (if t144 = 4 then (if t145 = 0 then (if bt146.2.2 = 4 then (if bt149.2.2 = 10 then (if bt152.2.2 = 2 then (some (bt155.2.2 == 1)) else (none)) else (none)) else (none)) else (none)) else (none)) else (none)) else (none))) else (none))) else (none))) else (none)) else (none)))))) else (none)))) else (none)) else (none)))))) = some r := H
  have A4 := Aside0.mk A40
  clear A40
  replace H := Option.bind_eq_some_iff.mp H
  obtain ⟨⟨t146, t147, t148⟩, A50, H⟩ := H
  replace H : ((word_Take.f k (⟨#[2, 97, 98]⟩ : ByteArray) 0 1).bind fun bt149 => ((word_Take.f k (⟨#[5, 97, 98]⟩ : ByteArray) 0 9).bind fun bt152 => ((word_Take.f k (⟨#[]⟩ : ByteArray) 1 9).bind fun bt155 => (if t137 = 1 then (if t138 = true then (if t140 = true then (none) else ((word_Valid.f (⟨#[]⟩ : ByteArray)).bind fun t158 => (if t158 = true then ((word_Valid.f (⟨#[192, 128]⟩ : ByteArray)).bind fun t159 => (if t159 = true then (none) else ((word_Valid.f (⟨#[237, 160, 128]⟩ : ByteArray)).bind fun t160 => (if t160 = true then (none) else (if t141 = 3 then (if t142 = true then ((word_Cut.f (⟨#[97, 195, 164]⟩ : ByteArray) 2).bind fun t161 => (if t161.toList = ([97] : List UInt8) then ((word_Cut.f (⟨#[97, 195, 164]⟩ : ByteArray) 3).bind fun t162 => (if t162.toList = ([97, 195, 164] : List UInt8) then ((word_Put.f k (⟨#[97, 98]⟩ : ByteArray)).bind fun t163 => (if t163.toList = ([2, 97, 98] : List UInt8) then (if t143.toList = ([195, 164] : List UInt8) then (if t144 = 4 then (if t145 = 0 then (if t148 = 4 then (if bt149.2.2 = 10 then (if bt152.2.2 = 2 then (some (bt155.2.2 == 1)) else (none)) else (none)) else (none)) else (none)) else (none)) else (none)) else (none))) else (none))) else (none))) else (none)) else (none)))))) else (none)))) else (none)) else (none))))) = some r := H
  have A5 := Aside0.mk A50
  clear A50
  replace H := Option.bind_eq_some_iff.mp H
  obtain ⟨⟨t149, t150, t151⟩, A60, H⟩ := H
  replace H : ((word_Take.f k (⟨#[5, 97, 98]⟩ : ByteArray) 0 9).bind fun bt152 => ((word_Take.f k (⟨#[]⟩ : ByteArray) 1 9).bind fun bt155 => (if t137 = 1 then (if t138 = true then (if t140 = true then (none) else ((word_Valid.f (⟨#[]⟩ : ByteArray)).bind fun t158 => (if t158 = true then ((word_Valid.f (⟨#[192, 128]⟩ : ByteArray)).bind fun t159 => (if t159 = true then (none) else ((word_Valid.f (⟨#[237, 160, 128]⟩ : ByteArray)).bind fun t160 => (if t160 = true then (none) else (if t141 = 3 then (if t142 = true then ((word_Cut.f (⟨#[97, 195, 164]⟩ : ByteArray) 2).bind fun t161 => (if t161.toList = ([97] : List UInt8) then ((word_Cut.f (⟨#[97, 195, 164]⟩ : ByteArray) 3).bind fun t162 => (if t162.toList = ([97, 195, 164] : List UInt8) then ((word_Put.f k (⟨#[97, 98]⟩ : ByteArray)).bind fun t163 => (if t163.toList = ([2, 97, 98] : List UInt8) then (if t143.toList = ([195, 164] : List UInt8) then (if t144 = 4 then (if t145 = 0 then (if t148 = 4 then (if t151 = 10 then (if bt152.2.2 = 2 then (some (bt155.2.2 == 1)) else (none)) else (none)) else (none)) else (none)) else (none)) else (none)) else (none))) else (none))) else (none))) else (none)) else (none)))))) else (none)))) else (none)) else (none)))) = some r := H
  have A6 := Aside0.mk A60
  clear A60
  replace H := Option.bind_eq_some_iff.mp H
  obtain ⟨⟨t152, t153, t154⟩, A70, H⟩ := H
  replace H : ((word_Take.f k (⟨#[]⟩ : ByteArray) 1 9).bind fun bt155 => (if t137 = 1 then (if t138 = true then (if t140 = true then (none) else ((word_Valid.f (⟨#[]⟩ : ByteArray)).bind fun t158 => (if t158 = true then ((word_Valid.f (⟨#[192, 128]⟩ : ByteArray)).bind fun t159 => (if t159 = true then (none) else ((word_Valid.f (⟨#[237, 160, 128]⟩ : ByteArray)).bind fun t160 => (if t160 = true then (none) else (if t141 = 3 then (if t142 = true then ((word_Cut.f (⟨#[97, 195, 164]⟩ : ByteArray) 2).bind fun t161 => (if t161.toList = ([97] : List UInt8) then ((word_Cut.f (⟨#[97, 195, 164]⟩ : ByteArray) 3).bind fun t162 => (if t162.toList = ([97, 195, 164] : List UInt8) then ((word_Put.f k (⟨#[97, 98]⟩ : ByteArray)).bind fun t163 => (if t163.toList = ([2, 97, 98] : List UInt8) then (if t143.toList = ([195, 164] : List UInt8) then (if t144 = 4 then (if t145 = 0 then (if t148 = 4 then (if t151 = 10 then (if t154 = 2 then (some (bt155.2.2 == 1)) else (none)) else (none)) else (none)) else (none)) else (none)) else (none)) else (none))) else (none))) else (none))) else (none)) else (none)))))) else (none)))) else (none)) else (none))) = some r := H
  have A7 := Aside0.mk A70
  clear A70
  replace H := Option.bind_eq_some_iff.mp H
  obtain ⟨⟨t155, t156, t157⟩, A80, H⟩ := H
  replace H : (if t137 = 1 then (if t138 = true then (if t140 = true then (none) else ((word_Valid.f (⟨#[]⟩ : ByteArray)).bind fun t158 => (if t158 = true then ((word_Valid.f (⟨#[192, 128]⟩ : ByteArray)).bind fun t159 => (if t159 = true then (none) else ((word_Valid.f (⟨#[237, 160, 128]⟩ : ByteArray)).bind fun t160 => (if t160 = true then (none) else (if t141 = 3 then (if t142 = true then ((word_Cut.f (⟨#[97, 195, 164]⟩ : ByteArray) 2).bind fun t161 => (if t161.toList = ([97] : List UInt8) then ((word_Cut.f (⟨#[97, 195, 164]⟩ : ByteArray) 3).bind fun t162 => (if t162.toList = ([97, 195, 164] : List UInt8) then ((word_Put.f k (⟨#[97, 98]⟩ : ByteArray)).bind fun t163 => (if t163.toList = ([2, 97, 98] : List UInt8) then (if t143.toList = ([195, 164] : List UInt8) then (if t144 = 4 then (if t145 = 0 then (if t148 = 4 then (if t151 = 10 then (if t154 = 2 then (some (t157 == 1)) else (none)) else (none)) else (none)) else (none)) else (none)) else (none)) else (none))) else (none))) else (none))) else (none)) else (none)))))) else (none)))) else (none)) else (none)) = some r := H
  have A8 := Aside0.mk A80
  clear A80
  by_cases c9 : t137 = 1
  · rw [if_pos c9] at H
    have c9b0 : (t137 == 1) = true := beq_iff_eq.mpr c9
    have c9b1 : (t137 != 1) = false := bne_eq_false_iff_eq.mpr c9
    clear c9
    by_cases c10 : t138 = true
    · subst c10
      have H1 : (if t140 = true then (none) else ((word_Valid.f (⟨#[]⟩ : ByteArray)).bind fun t158 => (if t158 = true then ((word_Valid.f (⟨#[192, 128]⟩ : ByteArray)).bind fun t159 => (if t159 = true then (none) else ((word_Valid.f (⟨#[237, 160, 128]⟩ : ByteArray)).bind fun t160 => (if t160 = true then (none) else (if t141 = 3 then (if t142 = true then ((word_Cut.f (⟨#[97, 195, 164]⟩ : ByteArray) 2).bind fun t161 => (if t161.toList = ([97] : List UInt8) then ((word_Cut.f (⟨#[97, 195, 164]⟩ : ByteArray) 3).bind fun t162 => (if t162.toList = ([97, 195, 164] : List UInt8) then ((word_Put.f k (⟨#[97, 98]⟩ : ByteArray)).bind fun t163 => (if t163.toList = ([2, 97, 98] : List UInt8) then (if t143.toList = ([195, 164] : List UInt8) then (if t144 = 4 then (if t145 = 0 then (if t148 = 4 then (if t151 = 10 then (if t154 = 2 then (some (t157 == 1)) else (none)) else (none)) else (none)) else (none)) else (none)) else (none)) else (none))) else (none))) else (none))) else (none)) else (none)))))) else (none)))) = some r := by rw [if_pos rfl] at H; exact H
      clear H
      have H := H1
      clear H1
      by_cases c11 : t140 = true
      · subst c11
        have H1 : (none) = some r := by rw [if_pos rfl] at H; exact H
        clear H
        have H := H1
        clear H1
        exact absurd H (by simp)
      · replace c11 := Bool.eq_false_iff.mpr c11
        subst c11
        have H1 : ((word_Valid.f (⟨#[]⟩ : ByteArray)).bind fun t158 => (if t158 = true then ((word_Valid.f (⟨#[192, 128]⟩ : ByteArray)).bind fun t159 => (if t159 = true then (none) else ((word_Valid.f (⟨#[237, 160, 128]⟩ : ByteArray)).bind fun t160 => (if t160 = true then (none) else (if t141 = 3 then (if t142 = true then ((word_Cut.f (⟨#[97, 195, 164]⟩ : ByteArray) 2).bind fun t161 => (if t161.toList = ([97] : List UInt8) then ((word_Cut.f (⟨#[97, 195, 164]⟩ : ByteArray) 3).bind fun t162 => (if t162.toList = ([97, 195, 164] : List UInt8) then ((word_Put.f k (⟨#[97, 98]⟩ : ByteArray)).bind fun t163 => (if t163.toList = ([2, 97, 98] : List UInt8) then (if t143.toList = ([195, 164] : List UInt8) then (if t144 = 4 then (if t145 = 0 then (if t148 = 4 then (if t151 = 10 then (if t154 = 2 then (some (t157 == 1)) else (none)) else (none)) else (none)) else (none)) else (none)) else (none)) else (none))) else (none))) else (none))) else (none)) else (none)))))) else (none))) = some r := by rw [if_neg (show ¬ (false = true) by decide)] at H; exact H
        clear H
        have H := H1
        clear H1
        replace H := Option.bind_eq_some_iff.mp H
        obtain ⟨t158, A120, H⟩ := H
        replace H : (if t158 = true then ((word_Valid.f (⟨#[192, 128]⟩ : ByteArray)).bind fun t159 => (if t159 = true then (none) else ((word_Valid.f (⟨#[237, 160, 128]⟩ : ByteArray)).bind fun t160 => (if t160 = true then (none) else (if t141 = 3 then (if t142 = true then ((word_Cut.f (⟨#[97, 195, 164]⟩ : ByteArray) 2).bind fun t161 => (if t161.toList = ([97] : List UInt8) then ((word_Cut.f (⟨#[97, 195, 164]⟩ : ByteArray) 3).bind fun t162 => (if t162.toList = ([97, 195, 164] : List UInt8) then ((word_Put.f k (⟨#[97, 98]⟩ : ByteArray)).bind fun t163 => (if t163.toList = ([2, 97, 98] : List UInt8) then (if t143.toList = ([195, 164] : List UInt8) then (if t144 = 4 then (if t145 = 0 then (if t148 = 4 then (if t151 = 10 then (if t154 = 2 then (some (t157 == 1)) else (none)) else (none)) else (none)) else (none)) else (none)) else (none)) else (none))) else (none))) else (none))) else (none)) else (none)))))) else (none)) = some r := H
        have A12 := Aside0.mk A120
        clear A120
        by_cases c13 : t158 = true
        · subst c13
          have H1 : ((word_Valid.f (⟨#[192, 128]⟩ : ByteArray)).bind fun t159 => (if t159 = true then (none) else ((word_Valid.f (⟨#[237, 160, 128]⟩ : ByteArray)).bind fun t160 => (if t160 = true then (none) else (if t141 = 3 then (if t142 = true then ((word_Cut.f (⟨#[97, 195, 164]⟩ : ByteArray) 2).bind fun t161 => (if t161.toList = ([97] : List UInt8) then ((word_Cut.f (⟨#[97, 195, 164]⟩ : ByteArray) 3).bind fun t162 => (if t162.toList = ([97, 195, 164] : List UInt8) then ((word_Put.f k (⟨#[97, 98]⟩ : ByteArray)).bind fun t163 => (if t163.toList = ([2, 97, 98] : List UInt8) then (if t143.toList = ([195, 164] : List UInt8) then (if t144 = 4 then (if t145 = 0 then (if t148 = 4 then (if t151 = 10 then (if t154 = 2 then (some (t157 == 1)) else (none)) else (none)) else (none)) else (none)) else (none)) else (none)) else (none))) else (none))) else (none))) else (none)) else (none)))))) = some r := by rw [if_pos rfl] at H; exact H
          clear H
          have H := H1
          clear H1
          replace H := Option.bind_eq_some_iff.mp H
          obtain ⟨t159, A140, H⟩ := H
          replace H : (if t159 = true then (none) else ((word_Valid.f (⟨#[237, 160, 128]⟩ : ByteArray)).bind fun t160 => (if t160 = true then (none) else (if t141 = 3 then (if t142 = true then ((word_Cut.f (⟨#[97, 195, 164]⟩ : ByteArray) 2).bind fun t161 => (if t161.toList = ([97] : List UInt8) then ((word_Cut.f (⟨#[97, 195, 164]⟩ : ByteArray) 3).bind fun t162 => (if t162.toList = ([97, 195, 164] : List UInt8) then ((word_Put.f k (⟨#[97, 98]⟩ : ByteArray)).bind fun t163 => (if t163.toList = ([2, 97, 98] : List UInt8) then (if t143.toList = ([195, 164] : List UInt8) then (if t144 = 4 then (if t145 = 0 then (if t148 = 4 then (if t151 = 10 then (if t154 = 2 then (some (t157 == 1)) else (none)) else (none)) else (none)) else (none)) else (none)) else (none)) else (none))) else (none))) else (none))) else (none)) else (none))))) = some r := H
          have A14 := Aside0.mk A140
          clear A140
          by_cases c15 : t159 = true
          · subst c15
            have H1 : (none) = some r := by rw [if_pos rfl] at H; exact H
            clear H
            have H := H1
            clear H1
            exact absurd H (by simp)
          · replace c15 := Bool.eq_false_iff.mpr c15
            subst c15
            have H1 : ((word_Valid.f (⟨#[237, 160, 128]⟩ : ByteArray)).bind fun t160 => (if t160 = true then (none) else (if t141 = 3 then (if t142 = true then ((word_Cut.f (⟨#[97, 195, 164]⟩ : ByteArray) 2).bind fun t161 => (if t161.toList = ([97] : List UInt8) then ((word_Cut.f (⟨#[97, 195, 164]⟩ : ByteArray) 3).bind fun t162 => (if t162.toList = ([97, 195, 164] : List UInt8) then ((word_Put.f k (⟨#[97, 98]⟩ : ByteArray)).bind fun t163 => (if t163.toList = ([2, 97, 98] : List UInt8) then (if t143.toList = ([195, 164] : List UInt8) then (if t144 = 4 then (if t145 = 0 then (if t148 = 4 then (if t151 = 10 then (if t154 = 2 then (some (t157 == 1)) else (none)) else (none)) else (none)) else (none)) else (none)) else (none)) else (none))) else (none))) else (none))) else (none)) else (none)))) = some r := by rw [if_neg (show ¬ (false = true) by decide)] at H; exact H
            clear H
            have H := H1
            clear H1
            replace H := Option.bind_eq_some_iff.mp H
            obtain ⟨t160, A160, H⟩ := H
            replace H : (if t160 = true then (none) else (if t141 = 3 then (if t142 = true then ((word_Cut.f (⟨#[97, 195, 164]⟩ : ByteArray) 2).bind fun t161 => (if t161.toList = ([97] : List UInt8) then ((word_Cut.f (⟨#[97, 195, 164]⟩ : ByteArray) 3).bind fun t162 => (if t162.toList = ([97, 195, 164] : List UInt8) then ((word_Put.f k (⟨#[97, 98]⟩ : ByteArray)).bind fun t163 => (if t163.toList = ([2, 97, 98] : List UInt8) then (if t143.toList = ([195, 164] : List UInt8) then (if t144 = 4 then (if t145 = 0 then (if t148 = 4 then (if t151 = 10 then (if t154 = 2 then (some (t157 == 1)) else (none)) else (none)) else (none)) else (none)) else (none)) else (none)) else (none))) else (none))) else (none))) else (none)) else (none))) = some r := H
            have A16 := Aside0.mk A160
            clear A160
            by_cases c17 : t160 = true
            · subst c17
              have H1 : (none) = some r := by rw [if_pos rfl] at H; exact H
              clear H
              have H := H1
              clear H1
              exact absurd H (by simp)
            · replace c17 := Bool.eq_false_iff.mpr c17
              subst c17
              have H1 : (if t141 = 3 then (if t142 = true then ((word_Cut.f (⟨#[97, 195, 164]⟩ : ByteArray) 2).bind fun t161 => (if t161.toList = ([97] : List UInt8) then ((word_Cut.f (⟨#[97, 195, 164]⟩ : ByteArray) 3).bind fun t162 => (if t162.toList = ([97, 195, 164] : List UInt8) then ((word_Put.f k (⟨#[97, 98]⟩ : ByteArray)).bind fun t163 => (if t163.toList = ([2, 97, 98] : List UInt8) then (if t143.toList = ([195, 164] : List UInt8) then (if t144 = 4 then (if t145 = 0 then (if t148 = 4 then (if t151 = 10 then (if t154 = 2 then (some (t157 == 1)) else (none)) else (none)) else (none)) else (none)) else (none)) else (none)) else (none))) else (none))) else (none))) else (none)) else (none)) = some r := by rw [if_neg (show ¬ (false = true) by decide)] at H; exact H
              clear H
              have H := H1
              clear H1
              by_cases c18 : t141 = 3
              · rw [if_pos c18] at H
                have c18b0 : (t141 == 3) = true := beq_iff_eq.mpr c18
                have c18b1 : (t141 != 3) = false := bne_eq_false_iff_eq.mpr c18
                clear c18
                by_cases c19 : t142 = true
                · subst c19
                  have H1 : ((word_Cut.f (⟨#[97, 195, 164]⟩ : ByteArray) 2).bind fun t161 => (if t161.toList = ([97] : List UInt8) then ((word_Cut.f (⟨#[97, 195, 164]⟩ : ByteArray) 3).bind fun t162 => (if t162.toList = ([97, 195, 164] : List UInt8) then ((word_Put.f k (⟨#[97, 98]⟩ : ByteArray)).bind fun t163 => (if t163.toList = ([2, 97, 98] : List UInt8) then (if t143.toList = ([195, 164] : List UInt8) then (if t144 = 4 then (if t145 = 0 then (if t148 = 4 then (if t151 = 10 then (if t154 = 2 then (some (t157 == 1)) else (none)) else (none)) else (none)) else (none)) else (none)) else (none)) else (none))) else (none))) else (none))) = some r := by rw [if_pos rfl] at H; exact H
                  clear H
                  have H := H1
                  clear H1
                  replace H := Option.bind_eq_some_iff.mp H
                  obtain ⟨t161, A200, H⟩ := H
                  replace H : (if t161.toList = ([97] : List UInt8) then ((word_Cut.f (⟨#[97, 195, 164]⟩ : ByteArray) 3).bind fun t162 => (if t162.toList = ([97, 195, 164] : List UInt8) then ((word_Put.f k (⟨#[97, 98]⟩ : ByteArray)).bind fun t163 => (if t163.toList = ([2, 97, 98] : List UInt8) then (if t143.toList = ([195, 164] : List UInt8) then (if t144 = 4 then (if t145 = 0 then (if t148 = 4 then (if t151 = 10 then (if t154 = 2 then (some (t157 == 1)) else (none)) else (none)) else (none)) else (none)) else (none)) else (none)) else (none))) else (none))) else (none)) = some r := H
                  have A20 := Aside0.mk A200
                  clear A200
                  by_cases c21 : t161.toList = ([97] : List UInt8)
                  · rw [if_pos c21] at H
                    have c21b0 : (t161.toList == ([97] : List UInt8)) = true := beq_iff_eq.mpr c21
                    have c21b1 : (t161.toList != ([97] : List UInt8)) = false := bne_eq_false_iff_eq.mpr c21
                    clear c21
                    replace H := Option.bind_eq_some_iff.mp H
                    obtain ⟨t162, A220, H⟩ := H
                    replace H : (if t162.toList = ([97, 195, 164] : List UInt8) then ((word_Put.f k (⟨#[97, 98]⟩ : ByteArray)).bind fun t163 => (if t163.toList = ([2, 97, 98] : List UInt8) then (if t143.toList = ([195, 164] : List UInt8) then (if t144 = 4 then (if t145 = 0 then (if t148 = 4 then (if t151 = 10 then (if t154 = 2 then (some (t157 == 1)) else (none)) else (none)) else (none)) else (none)) else (none)) else (none)) else (none))) else (none)) = some r := H
                    have A22 := Aside0.mk A220
                    clear A220
                    by_cases c23 : t162.toList = ([97, 195, 164] : List UInt8)
                    · rw [if_pos c23] at H
                      have c23b0 : (t162.toList == ([97, 195, 164] : List UInt8)) = true := beq_iff_eq.mpr c23
                      have c23b1 : (t162.toList != ([97, 195, 164] : List UInt8)) = false := bne_eq_false_iff_eq.mpr c23
                      clear c23
                      replace H := Option.bind_eq_some_iff.mp H
                      obtain ⟨t163, A240, H⟩ := H
                      replace H : (if t163.toList = ([2, 97, 98] : List UInt8) then (if t143.toList = ([195, 164] : List UInt8) then (if t144 = 4 then (if t145 = 0 then (if t148 = 4 then (if t151 = 10 then (if t154 = 2 then (some (t157 == 1)) else (none)) else (none)) else (none)) else (none)) else (none)) else (none)) else (none)) = some r := H
                      have A24 := Aside0.mk A240
                      clear A240
                      by_cases c25 : t163.toList = ([2, 97, 98] : List UInt8)
                      · rw [if_pos c25] at H
                        have c25b0 : (t163.toList == ([2, 97, 98] : List UInt8)) = true := beq_iff_eq.mpr c25
                        have c25b1 : (t163.toList != ([2, 97, 98] : List UInt8)) = false := bne_eq_false_iff_eq.mpr c25
                        clear c25
                        by_cases c26 : t143.toList = ([195, 164] : List UInt8)
                        · rw [if_pos c26] at H
                          have c26b0 : (t143.toList == ([195, 164] : List UInt8)) = true := beq_iff_eq.mpr c26
                          have c26b1 : (t143.toList != ([195, 164] : List UInt8)) = false := bne_eq_false_iff_eq.mpr c26
                          clear c26
                          by_cases c27 : t144 = 4
                          · rw [if_pos c27] at H
                            have c27b0 : (t144 == 4) = true := beq_iff_eq.mpr c27
                            have c27b1 : (t144 != 4) = false := bne_eq_false_iff_eq.mpr c27
                            clear c27
                            by_cases c28 : t145 = 0
                            · rw [if_pos c28] at H
                              have c28b0 : (t145 == 0) = true := beq_iff_eq.mpr c28
                              have c28b1 : (t145 != 0) = false := bne_eq_false_iff_eq.mpr c28
                              clear c28
                              by_cases c29 : t148 = 4
                              · rw [if_pos c29] at H
                                have c29b0 : (t148 == 4) = true := beq_iff_eq.mpr c29
                                have c29b1 : (t148 != 4) = false := bne_eq_false_iff_eq.mpr c29
                                clear c29
                                by_cases c30 : t151 = 10
                                · rw [if_pos c30] at H
                                  have c30b0 : (t151 == 10) = true := beq_iff_eq.mpr c30
                                  have c30b1 : (t151 != 10) = false := bne_eq_false_iff_eq.mpr c30
                                  clear c30
                                  by_cases c31 : t154 = 2
                                  · rw [if_pos c31] at H
                                    have c31b0 : (t154 == 2) = true := beq_iff_eq.mpr c31
                                    have c31b1 : (t154 != 2) = false := bne_eq_false_iff_eq.mpr c31
                                    clear c31
                                    obtain rfl := Option.some.inj H
                                    go_enter Try.func24, Try.ntmps24
                                    go_wp2_with (first | ((with_reducible refine gate_callee (f := 25) rfl ?_); refine goesL_ (some 23) rfl rfl Try.func25 (by kernel_rfl) rfl #[.string (⟨#[97, 255]⟩ : ByteArray)] rfl (by (try simp only [List.map_toArray, List.map_cons, List.map_nil]); first | done | rfl | (simp only [List.length_drop, List.length_take]; rfl)) ?_; (with_reducible refine (word_First.calls (⟨#[97, 255]⟩ : ByteArray) t137 true _ A1.out).mono ?_); rintro e w32 ⟨rfl, hb⟩; refine ⟨_, rfl, ?_⟩; have n0_ := Aside0.mk (below_step (by repeat (first | (with_reducible first | exact HB.out | apply below_alloc | apply pw_below_drewN | apply below_drew1) | exact HB.out)) hb); clear HB; have HB := n0_; clear n0_; (try clear hb); (try clear hb2); (try clear hk); (try clear hi)) | ((with_reducible refine gate_callee (f := 25) rfl ?_); refine goesL_ (some 27) rfl rfl Try.func25 (by kernel_rfl) rfl #[.string (⟨#[195, 164, 226, 130, 172]⟩ : ByteArray)] rfl (by (try simp only [List.map_toArray, List.map_cons, List.map_nil]); first | done | rfl | (simp only [List.length_drop, List.length_take]; rfl)) ?_; (with_reducible refine (word_First.calls (⟨#[195, 164, 226, 130, 172]⟩ : ByteArray) t139 false _ A2.out).mono ?_); rintro e w33 ⟨rfl, hb⟩; refine ⟨_, rfl, ?_⟩; have n0_ := Aside0.mk (below_step (by repeat (first | (with_reducible first | exact HB.out | apply below_alloc | apply pw_below_drewN | apply below_drew1) | exact HB.out)) hb); clear HB; have HB := n0_; clear n0_; (try clear hb); (try clear hb2); (try clear hk); (try clear hi)) | ((with_reducible refine gate_callee (f := 27) rfl ?_); refine goesL_ (some 31) rfl rfl Try.func27 (by kernel_rfl) rfl #[.string (⟨#[97, 195, 164, 226, 130, 172]⟩ : ByteArray)] rfl (by (try simp only [List.map_toArray, List.map_cons, List.map_nil]); first | done | rfl | (simp only [List.length_drop, List.length_take]; rfl)) ?_; (with_reducible refine (word_Count.calls (⟨#[97, 195, 164, 226, 130, 172]⟩ : ByteArray) t141 true _ A3.out).mono ?_); rintro e w34 ⟨rfl, hb⟩; refine ⟨_, rfl, ?_⟩; have n0_ := Aside0.mk (below_step (by repeat (first | (with_reducible first | exact HB.out | apply below_alloc | apply pw_below_drewN | apply below_drew1) | exact HB.out)) hb); clear HB; have HB := n0_; clear n0_; (try clear hb); (try clear hb2); (try clear hk); (try clear hi)) | ((with_reducible refine gate_callee (f := 35) rfl ?_); refine goesL_ (some 35) rfl rfl Try.func35 (by kernel_rfl) rfl #[.string (⟨#[120, 2, 195, 164, 121]⟩ : ByteArray), .int .i64 1, .int .i64 9] rfl (by (try simp only [List.map_toArray, List.map_cons, List.map_nil]); first | done | rfl | (simp only [List.length_drop, List.length_take]; rfl)) ?_; (with_reducible refine (word_Take.calls k (⟨#[120, 2, 195, 164, 121]⟩ : ByteArray) 1 9 t143 t144 t145 _ A4.out).mono ?_); rintro e w35 ⟨rfl, hb⟩; refine ⟨_, rfl, ?_⟩; have n0_ := Aside0.mk (below_step (by repeat (first | (with_reducible first | exact HB.out | apply below_alloc | apply pw_below_drewN | apply below_drew1) | exact HB.out)) hb); clear HB; have HB := n0_; clear n0_; (try clear hb); (try clear hb2); (try clear hk); (try clear hi)) | ((with_reducible refine gate_callee (f := 35) rfl ?_); refine goesL_ (some 40) rfl rfl Try.func35 (by kernel_rfl) rfl #[.string (⟨#[2, 195, 121]⟩ : ByteArray), .int .i64 0, .int .i64 9] rfl (by (try simp only [List.map_toArray, List.map_cons, List.map_nil]); first | done | rfl | (simp only [List.length_drop, List.length_take]; rfl)) ?_; (with_reducible refine (word_Take.calls k (⟨#[2, 195, 121]⟩ : ByteArray) 0 9 t146 t147 t148 _ A5.out).mono ?_); rintro e w36 ⟨rfl, hb⟩; refine ⟨_, rfl, ?_⟩; have n0_ := Aside0.mk (below_step (by repeat (first | (with_reducible first | exact HB.out | apply below_alloc | apply pw_below_drewN | apply below_drew1) | exact HB.out)) hb); clear HB; have HB := n0_; clear n0_; (try clear hb); (try clear hb2); (try clear hk); (try clear hi)) | ((with_reducible refine gate_callee (f := 35) rfl ?_); refine goesL_ (some 45) rfl rfl Try.func35 (by kernel_rfl) rfl #[.string (⟨#[2, 97, 98]⟩ : ByteArray), .int .i64 0, .int .i64 1] rfl (by (try simp only [List.map_toArray, List.map_cons, List.map_nil]); first | done | rfl | (simp only [List.length_drop, List.length_take]; rfl)) ?_; (with_reducible refine (word_Take.calls k (⟨#[2, 97, 98]⟩ : ByteArray) 0 1 t149 t150 t151 _ A6.out).mono ?_); rintro e w37 ⟨rfl, hb⟩; refine ⟨_, rfl, ?_⟩; have n0_ := Aside0.mk (below_step (by repeat (first | (with_reducible first | exact HB.out | apply below_alloc | apply pw_below_drewN | apply below_drew1) | exact HB.out)) hb); clear HB; have HB := n0_; clear n0_; (try clear hb); (try clear hb2); (try clear hk); (try clear hi)) | ((with_reducible refine gate_callee (f := 35) rfl ?_); refine goesL_ (some 50) rfl rfl Try.func35 (by kernel_rfl) rfl #[.string (⟨#[5, 97, 98]⟩ : ByteArray), .int .i64 0, .int .i64 9] rfl (by (try simp only [List.map_toArray, List.map_cons, List.map_nil]); first | done | rfl | (simp only [List.length_drop, List.length_take]; rfl)) ?_; (with_reducible refine (word_Take.calls k (⟨#[5, 97, 98]⟩ : ByteArray) 0 9 t152 t153 t154 _ A7.out).mono ?_); rintro e w38 ⟨rfl, hb⟩; refine ⟨_, rfl, ?_⟩; have n0_ := Aside0.mk (below_step (by repeat (first | (with_reducible first | exact HB.out | apply below_alloc | apply pw_below_drewN | apply below_drew1) | exact HB.out)) hb); clear HB; have HB := n0_; clear n0_; (try clear hb); (try clear hb2); (try clear hk); (try clear hi)) | ((with_reducible refine gate_callee (f := 35) rfl ?_); refine goesL_ (some 55) rfl rfl Try.func35 (by kernel_rfl) rfl #[.string (⟨#[]⟩ : ByteArray), .int .i64 1, .int .i64 9] rfl (by (try simp only [List.map_toArray, List.map_cons, List.map_nil]); first | done | rfl | (simp only [List.length_drop, List.length_take]; rfl)) ?_; (with_reducible refine (word_Take.calls k (⟨#[]⟩ : ByteArray) 1 9 t155 t156 t157 _ A8.out).mono ?_); rintro e w39 ⟨rfl, hb⟩; refine ⟨_, rfl, ?_⟩; have n0_ := Aside0.mk (below_step (by repeat (first | (with_reducible first | exact HB.out | apply below_alloc | apply pw_below_drewN | apply below_drew1) | exact HB.out)) hb); clear HB; have HB := n0_; clear n0_; (try clear hb); (try clear hb2); (try clear hk); (try clear hi)) | (go_at_call 29; (with_reducible refine (word_Valid.calls (⟨#[]⟩ : ByteArray) true _ A12.out).mono ?_); rintro e w40 ⟨rfl, hb⟩; have n0_ := Aside0.mk (below_step (by repeat (first | (with_reducible first | exact HB.out | apply below_alloc | apply pw_below_drewN | apply below_drew1) | exact HB.out)) hb); clear HB; have HB := n0_; clear n0_; (try clear hb); (try clear hb2); (try clear hk); (try clear hi)) | (go_at_call 29; (with_reducible refine (word_Valid.calls (⟨#[192, 128]⟩ : ByteArray) false _ A14.out).mono ?_); rintro e w41 ⟨rfl, hb⟩; have n0_ := Aside0.mk (below_step (by repeat (first | (with_reducible first | exact HB.out | apply below_alloc | apply pw_below_drewN | apply below_drew1) | exact HB.out)) hb); clear HB; have HB := n0_; clear n0_; (try clear hb); (try clear hb2); (try clear hk); (try clear hi)) | (go_at_call 29; (with_reducible refine (word_Valid.calls (⟨#[237, 160, 128]⟩ : ByteArray) false _ A16.out).mono ?_); rintro e w42 ⟨rfl, hb⟩; have n0_ := Aside0.mk (below_step (by repeat (first | (with_reducible first | exact HB.out | apply below_alloc | apply pw_below_drewN | apply below_drew1) | exact HB.out)) hb); clear HB; have HB := n0_; clear n0_; (try clear hb); (try clear hb2); (try clear hk); (try clear hi)) | (go_at_call 31; (with_reducible refine (word_Cut.calls (⟨#[97, 195, 164]⟩ : ByteArray) 2 t161 _ A20.out).mono ?_); rintro e w43 ⟨rfl, hb⟩; have n0_ := Aside0.mk (below_step (by repeat (first | (with_reducible first | exact HB.out | apply below_alloc | apply pw_below_drewN | apply below_drew1) | exact HB.out)) hb); clear HB; have HB := n0_; clear n0_; (try clear hb); (try clear hb2); (try clear hk); (try clear hi)) | (go_at_call 31; (with_reducible refine (word_Cut.calls (⟨#[97, 195, 164]⟩ : ByteArray) 3 t162 _ A22.out).mono ?_); rintro e w44 ⟨rfl, hb⟩; have n0_ := Aside0.mk (below_step (by repeat (first | (with_reducible first | exact HB.out | apply below_alloc | apply pw_below_drewN | apply below_drew1) | exact HB.out)) hb); clear HB; have HB := n0_; clear n0_; (try clear hb); (try clear hb2); (try clear hk); (try clear hi)) | (go_at_call 33; (with_reducible refine (word_Put.calls k (⟨#[97, 98]⟩ : ByteArray) t163 _ A24.out).mono ?_); rintro e w45 ⟨rfl, hb⟩; have n0_ := Aside0.mk (below_step (by repeat (first | (with_reducible first | exact HB.out | apply below_alloc | apply pw_below_drewN | apply below_drew1) | exact HB.out)) hb); clear HB; have HB := n0_; clear n0_; (try clear hb); (try clear hb2); (try clear hk); (try clear hi)))
                                    go_ret
                                    exact ⟨by first | rfl | (simp [errW_none, errW_some] <;> rfl) | (simp [*, errW_none, errW_some] <;> rfl), by repeat (first | (with_reducible first | exact HB.out | apply below_alloc | apply pw_below_drewN | apply below_drew1) | exact HB.out)⟩
                                  · rw [if_neg c31] at H
                                    exact absurd H (by simp)
                                · rw [if_neg c30] at H
                                  exact absurd H (by simp)
                              · rw [if_neg c29] at H
                                exact absurd H (by simp)
                            · rw [if_neg c28] at H
                              exact absurd H (by simp)
                          · rw [if_neg c27] at H
                            exact absurd H (by simp)
                        · rw [if_neg c26] at H
                          exact absurd H (by simp)
                      · rw [if_neg c25] at H
                        exact absurd H (by simp)
                    · rw [if_neg c23] at H
                      exact absurd H (by simp)
                  · rw [if_neg c21] at H
                    exact absurd H (by simp)
                · replace c19 := Bool.eq_false_iff.mpr c19
                  subst c19
                  have H1 : (none) = some r := by rw [if_neg (show ¬ (false = true) by decide)] at H; exact H
                  clear H
                  have H := H1
                  clear H1
                  exact absurd H (by simp)
              · rw [if_neg c18] at H
                exact absurd H (by simp)
        · replace c13 := Bool.eq_false_iff.mpr c13
          subst c13
          have H1 : (none) = some r := by rw [if_neg (show ¬ (false = true) by decide)] at H; exact H
          clear H
          have H := H1
          clear H1
          exact absurd H (by simp)
    · replace c10 := Bool.eq_false_iff.mpr c10
      subst c10
      have H1 : (none) = some r := by rw [if_neg (show ¬ (false = true) by decide)] at H; exact H
      clear H
      have H := H1
      clear H1
      exact absurd H (by simp)
  · rw [if_neg c9] at H
    exact absurd H (by simp)

/-! ### bonsairef04_in: function 97 -/
def bonsairef04_in.f (a0 : ByteArray) (a1 : Int) (a2 : Int) (a3 : Int) : Option (Bool) := if a1 < (a0.size : Int) then (if 0 ≤ a1 then (if (wrap64 (bt a0 a1)) ≥ a2 then (some (decide ((wrap64 (bt a0 a1)) ≤ a3))) else (some false)) else (none)) else (some false)
set_option maxHeartbeats 8000000 in
set_option maxRecDepth 100000 in
theorem bonsairef04_in.calls (a0 : ByteArray) (a1 : Int) (a2 : Int) (a3 : Int) (r : Bool) (w : World) (h : bonsairef04_in.f a0 a1 a2 a3 = some r) :
    Calls Try.prog 97 #[.string a0, .int .i64 a1, .int .i64 a2, .int .i64 a3] w fun e w' => e = .returned (.bool r) ∧ Drawn0 w w' := by
  have H : (if a1 < (a0.size : Int) then (if 0 ≤ a1 then (if (wrap64 (bt a0 a1)) ≥ a2 then (some (decide ((wrap64 (bt a0 a1)) ≤ a3))) else (some false)) else (none)) else (some false)) = some r := h
  clear h
  by_cases c5 : a1 < (a0.size : Int)
  · rw [if_pos c5] at H
    have c5b0 : decide (a1 < (a0.size : Int)) = true := decide_eq_true c5
    clear c5
    by_cases c6 : 0 ≤ a1
    · rw [if_pos c6] at H
      have c6b0 : decide (0 ≤ a1) = true := decide_eq_true c6
      clear c6
      by_cases c8 : (wrap64 (bt a0 a1)) ≥ a2
      · rw [if_pos c8] at H
        have c8b0 : decide (a2 ≤ (wrap64 (bt a0 a1))) = true := decide_eq_true c8
        clear c8
        obtain rfl := Option.some.inj H
        have p7 : 0 ≤ (a1 : Int) := of_decide_eq_true (by first | (with_reducible assumption) | assumption)
        have q7 : a1 < (a0.size : Int) := of_decide_eq_true (by first | (with_reducible assumption) | assumption)
        have hx7 := bt_at a0 a1
        replace p7 := eq_true p7
        replace q7 := eq_true q7
        have p9 : 0 ≤ (a1 : Int) := of_decide_eq_true (by first | (with_reducible assumption) | assumption)
        have q9 : a1 < (a0.size : Int) := of_decide_eq_true (by first | (with_reducible assumption) | assumption)
        have hx9 := bt_at a0 a1
        replace p9 := eq_true p9
        replace q9 := eq_true q9
        go_enter Try.func97, Try.ntmps97
        go_wp2
        go_ret
        exact ⟨by first | rfl | (simp; done) | (simp [*]; done), by repeat (first | exact Drawn0.refl _ | apply Drawn0.step)⟩
      · rw [if_neg c8] at H
        have c8b0 : decide (a2 ≤ (wrap64 (bt a0 a1))) = false := decide_eq_false c8
        clear c8
        obtain rfl := Option.some.inj H
        have p7 : 0 ≤ (a1 : Int) := of_decide_eq_true (by first | (with_reducible assumption) | assumption)
        have q7 : a1 < (a0.size : Int) := of_decide_eq_true (by first | (with_reducible assumption) | assumption)
        have hx7 := bt_at a0 a1
        replace p7 := eq_true p7
        replace q7 := eq_true q7
        go_enter Try.func97, Try.ntmps97
        go_wp2
        go_ret
        exact ⟨by first | rfl | (simp; done) | (simp [*]; done), by repeat (first | exact Drawn0.refl _ | apply Drawn0.step)⟩
    · rw [if_neg c6] at H
      exact absurd H (by simp)
  · rw [if_neg c5] at H
    have c5b0 : decide (a1 < (a0.size : Int)) = false := decide_eq_false c5
    clear c5
    obtain rfl := Option.some.inj H
    go_enter Try.func97, Try.ntmps97
    go_wp2
    go_ret
    exact ⟨by first | rfl | (simp; done) | (simp [*]; done), by repeat (first | exact Drawn0.refl _ | apply Drawn0.step)⟩

end Go.Proofs.Ytbgjoiccehiglaa.Print
