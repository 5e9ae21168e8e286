/- The walk of WordRunes: to the runes of a text and back. -/
import Derived.Test.YtbgjoiccehiglaaPrint4
import Derived.Test.YtbgjoiccehiglaaLibT
namespace Go.Proofs.Ytbgjoiccehiglaa.Runes
open Go.RowKit Go.Proofs.Ytbgjoiccehiglaa.Print Go.Proofs.YtbgjoiccehiglaaW.PrintWords Go.Proofs.YtbgjoiccehiglaaW.PrintLast Go.Proofs.YtbgjoiccehiglaaW.PrintMore Go.Proofs.Ytbgjoiccehiglaa.LibT
set_option linter.unusedVariables false
theorem conv_to (s : ByteArray) (hs : s.size ≤ 70368744177664) (w : World) :
    (convert 9 33 (.string s)).run Try.prog w = .ok (.slice (some ⟨w.heap.size, 0, none⟩) (rl s s.size 0).length (grownCap w (rl s s.size 0).length 0 21))
      (w.drew.alloc (.cells (((rl s s.size 0).map (Value.int .i32)).toArray ++ Array.replicate (grownCap w (rl s s.size 0).length 0 21 - (rl s s.size 0).length) (.int .i32 0)) 21)) := by
  have he : Conv.runesFrom s s.size 0 #[] = ((rl s s.size 0).map (Value.int .i32)).toArray := by rw [from_rl]; simp
  have hz : (Conv.runesFrom s s.size 0 #[]).size = (rl s s.size 0).length := by rw [he]; simp
  have h := run_runes_of_string (P := Try.prog) w 9 33 21 s Try.underlying9 Try.underlying33 Try.underlying21 (by have := size_runesFrom s s.size 0 #[]; simp at this; omega)
  rw [hz, he] at h
  exact h
theorem conv_back (ns : List Int) (x : Nat) (cap : Nat) (zs : Array Value) (w w1 : World) (hw : w.heap[x]? = some (.cells ((ns.map (Value.int .i32)).toArray ++ zs) 21)) (hb : w1.heap[x]? = w.heap[x]?) :
    (convert 33 9 (.slice (some ⟨x, 0, none⟩) ns.length cap)).run Try.prog w1 = .ok (.string (runesBytes ns)) w1 := by
  have h := run_convert_runes (P := Try.prog) w1 33 9 21 ⟨x, 0, none⟩ ns.length cap ns (Nat.le_refl _) Try.underlying33 Try.underlying21 Try.underlying9
    (fun j hj => by
      rw [show Addr.add ⟨x, 0, none⟩ j = ⟨x, j, none⟩ by unfold Addr.add; split <;> simp_all]
      unfold World.cell?
      simp only
      rw [hb, hw]
      simp only [hj, List.getD_eq_getElem?_getD, List.getElem?_eq_getElem, Option.getD_some, Option.isSome_none, Bool.false_eq_true, if_false]
      rw [Array.getElem?_append_left (by simpa using hj)]
      simp [hj])
  rw [List.take_length] at h
  exact h
set_option maxHeartbeats 8000000 in
set_option maxRecDepth 100000 in
theorem short (k : Nat) (a0 : ByteArray) (t1 : Int) (t2 : Bool) (b : Bool) (w : World) (hs : (a0.size : Int) ≤ 500) (A1 : Aside0 (word_Count.f a0 = some (t1, t2))) (A2 : Aside0 (word_Valid.f a0 = some b)) (A3 : Aside0 (bonsailaw04_live.f k = some true))
    (hcase : (runesBytes (rl a0 a0.size 0) = a0 ∧ t2 = true ∧ t1 = (rl a0 a0.size 0).length ∧ b = true) ∨ (runesBytes (rl a0 a0.size 0) ≠ a0 ∧ t2 = false ∧ t1 = 0 ∧ b = false)) :
    Calls Try.prog 5 #[.string a0] w fun e w' => e = .returned (.bool true) ∧ Below w.heap.size w w' := by
  have HB := Aside0.mk (Below.refl w.heap.size w)
  have c3b0 : decide (500 < (a0.size : Int)) = false := decide_eq_false (by omega)
  have hto := conv_to a0 (by omega) w
  have hback0 : ∀ w1, Below (w.alloc (.cells (((rl a0 a0.size 0).map (Value.int .i32)).toArray ++ Array.replicate (grownCap w (rl a0 a0.size 0).length 0 21 - (rl a0 a0.size 0).length) (.int .i32 0)) 21)).drew.heap.size (w.alloc (.cells (((rl a0 a0.size 0).map (Value.int .i32)).toArray ++ Array.replicate (grownCap w (rl a0 a0.size 0).length 0 21 - (rl a0 a0.size 0).length) (.int .i32 0)) 21)).drew w1 → (convert 33 9 (.slice (some ⟨w.heap.size, 0, none⟩) (rl a0 a0.size 0).length (grownCap w (rl a0 a0.size 0).length 0 21))).run Try.prog w1 = .ok (.string (runesBytes (rl a0 a0.size 0))) w1 :=
    fun w1 hb => conv_back (rl a0 a0.size 0) w.heap.size _ (Array.replicate (grownCap w (rl a0 a0.size 0).length 0 21 - (rl a0 a0.size 0).length) (.int .i32 0)) (w.alloc (.cells (((rl a0 a0.size 0).map (Value.int .i32)).toArray ++ Array.replicate (grownCap w (rl a0 a0.size 0).length 0 21 - (rl a0 a0.size 0).length) (.int .i32 0)) 21)).drew w1 (by show (w.heap.push _)[w.heap.size]? = _; simp) (hb.block _ (by show _ < (w.heap.push _).size; simp))
  rcases hcase with ⟨h1, rfl, rfl, rfl⟩ | ⟨h1, rfl, rfl, rfl⟩
  · go_enter Try.func5, Try.ntmps5
    go_wp2_with (first | simp only [hto] | simp only [hback] | (go_at_call 27; (with_reducible refine (word_Count.calls a0 _ _ _ A1.out).mono ?_); rintro e w4 ⟨rfl, hb⟩; have hback := hback0 _ hb; (try rw [h1] at hback); have n0_ := Aside0.mk (below_step (by repeat (first | (with_reducible first | exact HB.out | apply below_alloc | apply pw_below_drewN | apply below_drew1) | exact HB.out)) hb); clear HB; have HB := n0_; clear n0_; (try clear hb)) | (go_at_call 29; (with_reducible refine (word_Valid.calls a0 true _ A2.out).mono ?_); rintro e w5 ⟨rfl, hb⟩; have n0_ := Aside0.mk (below_step (by repeat (first | (with_reducible first | exact HB.out | apply below_alloc | apply pw_below_drewN | apply below_drew1) | exact HB.out)) hb); clear HB; have HB := n0_; clear n0_; (try clear hb)) | (go_at_call 24; (with_reducible refine (bonsailaw04_live.calls k true _ A3.out).mono ?_); rintro e w6 ⟨rfl, hb⟩; have n0_ := Aside0.mk (below_step (by repeat (first | (with_reducible first | exact HB.out | apply below_alloc | apply pw_below_drewN | apply below_drew1) | exact HB.out)) hb); clear HB; have HB := n0_; clear n0_; (try clear hb)))
    go_ret
    exact ⟨by first | rfl | (simp; done), by repeat (first | (with_reducible first | exact HB.out | apply below_alloc | apply pw_below_drewN | apply below_drew1) | exact HB.out)⟩
  · have c4b0 : ((runesBytes (rl a0 a0.size 0)).toList == a0.toList) = false := beq_eq_false_iff_ne.mpr fun hh => h1 (by rw [ByteArray.toList_eq, ByteArray.toList_eq] at hh; exact ByteArray.ext (Array.toList_inj.mp hh))
    go_enter Try.func5, Try.ntmps5
    go_wp2_with (first | simp only [hto] | simp only [hback] | (go_at_call 27; (with_reducible refine (word_Count.calls a0 _ _ _ A1.out).mono ?_); rintro e w4 ⟨rfl, hb⟩; have hback := hback0 _ hb; (try rw [h1] at hback); have n0_ := Aside0.mk (below_step (by repeat (first | (with_reducible first | exact HB.out | apply below_alloc | apply pw_below_drewN | apply below_drew1) | exact HB.out)) hb); clear HB; have HB := n0_; clear n0_; (try clear hb)) | (go_at_call 29; (with_reducible refine (word_Valid.calls a0 false _ A2.out).mono ?_); rintro e w5 ⟨rfl, hb⟩; have n0_ := Aside0.mk (below_step (by repeat (first | (with_reducible first | exact HB.out | apply below_alloc | apply pw_below_drewN | apply below_drew1) | exact HB.out)) hb); clear HB; have HB := n0_; clear n0_; (try clear hb)) | (go_at_call 24; (with_reducible refine (bonsailaw04_live.calls k true _ A3.out).mono ?_); rintro e w6 ⟨rfl, hb⟩; have n0_ := Aside0.mk (below_step (by repeat (first | (with_reducible first | exact HB.out | apply below_alloc | apply pw_below_drewN | apply below_drew1) | exact HB.out)) hb); clear HB; have HB := n0_; clear n0_; (try clear hb)))
    go_ret
    exact ⟨by first | rfl | (simp; done), by repeat (first | (with_reducible first | exact HB.out | apply below_alloc | apply pw_below_drewN | apply below_drew1) | exact HB.out)⟩
set_option maxHeartbeats 8000000 in
set_option maxRecDepth 100000 in
theorem long (k : Nat) (a0 : ByteArray) (w : World) (hs : 500 < (a0.size : Int)) (A3 : Aside0 (bonsailaw04_live.f k = some true)) :
    Calls Try.prog 5 #[.string a0] w fun e w' => e = .returned (.bool true) ∧ Below w.heap.size w w' := by
  have HB := Aside0.mk (Below.refl w.heap.size w)
  have c3b0 : decide (500 < (a0.size : Int)) = true := decide_eq_true hs
  go_enter Try.func5, Try.ntmps5
  go_wp2_with (first | (go_at_call 24; (with_reducible refine (bonsailaw04_live.calls k true _ A3.out).mono ?_); rintro e w6 ⟨rfl, hb⟩; have n0_ := Aside0.mk (below_step (by repeat (first | (with_reducible first | exact HB.out | apply below_alloc | apply pw_below_drewN | apply below_drew1) | exact HB.out)) hb); clear HB; have HB := n0_; clear n0_; (try clear hb)))
  go_ret
  exact ⟨by first | rfl | (simp; done), by repeat (first | (with_reducible first | exact HB.out | apply below_alloc | apply pw_below_drewN | apply below_drew1) | exact HB.out)⟩
theorem WordRunes (a0 : ByteArray) (w : World) (hs : a0.size ≤ 140737488351232) :
    Calls Try.prog 5 #[.string a0] w fun e w' => e = .returned (.bool true) ∧ Below w.heap.size w w' := by
  have A3 := Aside0.mk LibC.live04
  by_cases h : 500 < (a0.size : Int)
  · exact long 40 a0 w h A3
  · obtain ⟨c, j, t⟩ := LibB.tells a0 hs
    by_cases hv : LibA.Vld a0
    · have hj := t.vld.mp hv
      refine short 40 a0 c true true w (by omega) ⟨?_⟩ ⟨?_⟩ A3 (.inl ⟨(runes_vld a0).mpr hv, rfl, ?_, rfl⟩)
      · rw [t.wordCount, if_neg (by omega)]
      · rw [t.wordValid, decide_eq_true hv]
      · rw [runes_len (c := c) (by have := t.ch; rw [hj] at this; exact this)]
    · have hj : j < a0.size := by
        have := t.hi
        have : j ≠ a0.size := fun h => hv (t.vld.mpr h)
        omega
      refine short 40 a0 0 false false w (by omega) ⟨?_⟩ ⟨?_⟩ A3 (.inr ⟨fun h => hv ((runes_vld a0).mp h), rfl, rfl, rfl⟩)
      · rw [t.wordCount, if_pos hj]
      · rw [t.wordValid, decide_eq_false hv]
end Go.Proofs.Ytbgjoiccehiglaa.Runes
