/- Written by a program of this session (a turned print). Each Go function has a Lean function with the same answers, and a proof that the Go code comes to these. -/
import Derived.Test.YtbgjoiccehiglaaPrint0
import Derived.Test.YtbgjoiccehiglaaPrint2
import Derived.Test.YtbgjoiccehiglaaPrint4
namespace Go.Proofs.Ytbgjoiccehiglaa.Print
open Go.RowKit Go.Proofs.YtbgjoiccehiglaaW.PrintWords Go.Proofs.YtbgjoiccehiglaaW.PrintLast Go.Proofs.YtbgjoiccehiglaaW.PrintMore
attribute [local go_sem] max2_int min2_int max_two min_two max_three min_three max_four min_four   -- for this text's walks alone
set_option linter.unusedVariables false
set_option linter.unusedSimpArgs false

/-! ### bonsailaw04_WordParts: function 6 -/
mutual
def bonsailaw04_WordParts.j0 : Nat → ByteArray → ByteArray → Int → Bool → Option (Bool)
  | 0, _, _, _, _ => none
  | k + 1, x0, x1, x2, x18 => if x18 = true then ((bonsailaw04_live.f k).bind fun t219 => (some t219)) else ((word_First.f x0).bind fun bt220 => (if bt220.2 = true then (if bt220.1 < 0 then (bonsailaw04_WordParts.j1 k x0 x1 x2 true) else (if bt220.1 ≥ (x0.size : Int) then (bonsailaw04_WordParts.j1 k x0 x1 x2 true) else (if 0 ≤ bt220.1 then (if bt220.1 ≤ (x0.size : Int) then ((word_Valid.f (x0.extract 0 (bt220.1 : Int).toNat)).bind fun t222 => (if t222 = true then ((word_Valid.f x0).bind fun t223 => (if t223 = true then (bonsailaw04_WordParts.j1 k x0 x1 x2 true) else (bonsailaw04_WordParts.j1 k x0 x1 x2 false))) else (bonsailaw04_WordParts.j1 k x0 x1 x2 true))) else (none)) else (none)))) else (bonsailaw04_WordParts.j1 k x0 x1 x2 (bt220.1 != 0))))
def bonsailaw04_WordParts.j1 : Nat → ByteArray → ByteArray → Int → Bool → Option (Bool)
  | 0, _, _, _, _ => none
  | k + 1, x0, x1, x2, x54 => if x54 = true then (none) else ((word_Valid.f x0).bind fun t224 => (if t224 = true then (if x0.size + x1.size ≤ 9223372036854775807 then ((word_Valid.f (x0 ++ x1)).bind fun t225 => ((word_Valid.f x1).bind fun t226 => (bonsailaw04_WordParts.j2 k x0 x2 (t225 != t226)))) else (none)) else (bonsailaw04_WordParts.j2 k x0 x2 false)))
def bonsailaw04_WordParts.j2 : Nat → ByteArray → Int → Bool → Option (Bool)
  | 0, _, _, _ => none
  | k + 1, x0, x2, x65 => if x65 = true then (none) else ((word_Cut.f x0 x2).bind fun t227 => (if (t227.size : Int) > (mx x2 0) then (bonsailaw04_WordParts.j3 k x0 x2 t227 true) else (if (t227.size : Int) > (x0.size : Int) then (bonsailaw04_WordParts.j3 k x0 x2 t227 true) else (if 0 ≤ (t227.size : Int) then (if (t227.size : Int) ≤ (x0.size : Int) then (if (x0.extract 0 t227.size).toList = t227.toList then ((word_Valid.f t227).bind fun t228 => (bonsailaw04_WordParts.j3 k x0 x2 t227 (!t228))) else (bonsailaw04_WordParts.j3 k x0 x2 t227 true)) else (none)) else (none)))))
def bonsailaw04_WordParts.j3 : Nat → ByteArray → Int → ByteArray → Bool → Option (Bool)
  | 0, _, _, _, _ => none
  | k + 1, x0, x2, x9, x93 => if x93 = true then (none) else (bonsailaw04_WordParts.l0 k x0 x2 (wrap64 ((x9.size : Int) + 1)))
def bonsailaw04_WordParts.l0 : Nat → ByteArray → Int → Int → Option (Bool)
  | 0, _, _, _ => none
  | k + 1, x0, x2, x10 => if x10 ≤ (x0.size : Int) then (bonsailaw04_WordParts.j5 k x0 x2 x10 (decide (x10 ≤ x2))) else (bonsailaw04_WordParts.j5 k x0 x2 x10 false)
def bonsailaw04_WordParts.j5 : Nat → ByteArray → Int → Int → Bool → Option (Bool)
  | 0, _, _, _, _ => none
  | k + 1, x0, x2, x10, x105 => if x105 = true then (if 0 ≤ x10 then (if x10 ≤ (x0.size : Int) then ((word_Valid.f (x0.extract 0 (x10 : Int).toNat)).bind fun t229 => (if t229 = true then (none) else (bonsailaw04_WordParts.l0 k x0 x2 (wrap64 (x10 + 1))))) else (none)) else (none)) else ((bonsailaw04_live.f k).bind fun t230 => (some t230))
end
def bonsailaw04_WordParts.f (k : Nat) (a0 : ByteArray) (a1 : ByteArray) (a2 : Int) : Option (Bool) := if (a0.size : Int) > 300 then (bonsailaw04_WordParts.j0 k a0 a1 a2 true) else (bonsailaw04_WordParts.j0 k a0 a1 a2 (decide ((a1.size : Int) > 300)))
theorem bonsailaw04_WordParts.mono_l : ∀ k, (∀ y0 y1 y2 y3, LeO (bonsailaw04_WordParts.j0 k y0 y1 y2 y3) (bonsailaw04_WordParts.j0 (k + 1) y0 y1 y2 y3)) ∧ (∀ y0 y1 y2 y3, LeO (bonsailaw04_WordParts.j1 k y0 y1 y2 y3) (bonsailaw04_WordParts.j1 (k + 1) y0 y1 y2 y3)) ∧ (∀ y0 y1 y2, LeO (bonsailaw04_WordParts.j2 k y0 y1 y2) (bonsailaw04_WordParts.j2 (k + 1) y0 y1 y2)) ∧ (∀ y0 y1 y2 y3, LeO (bonsailaw04_WordParts.j3 k y0 y1 y2 y3) (bonsailaw04_WordParts.j3 (k + 1) y0 y1 y2 y3)) ∧ (∀ y0 y1 y2, LeO (bonsailaw04_WordParts.l0 k y0 y1 y2) (bonsailaw04_WordParts.l0 (k + 1) y0 y1 y2)) ∧ (∀ y0 y1 y2 y3, LeO (bonsailaw04_WordParts.j5 k y0 y1 y2 y3) (bonsailaw04_WordParts.j5 (k + 1) y0 y1 y2 y3))
  | 0 => ⟨fun _ _ _ _ r h => by simp [bonsailaw04_WordParts.j0] at h, fun _ _ _ _ r h => by simp [bonsailaw04_WordParts.j1] at h, fun _ _ _ r h => by simp [bonsailaw04_WordParts.j2] at h, fun _ _ _ _ r h => by simp [bonsailaw04_WordParts.j3] at h, fun _ _ _ r h => by simp [bonsailaw04_WordParts.l0] at h, fun _ _ _ _ r h => by simp [bonsailaw04_WordParts.j5] at h⟩
  | k + 1 => by
    obtain ⟨ih0, ih1, ih2, ih3, ih4, ih5⟩ := bonsailaw04_WordParts.mono_l k
    refine ⟨?_, ?_, ?_, ?_, ?_, ?_⟩
    · intro y0 y1 y2 y3
      unfold bonsailaw04_WordParts.j0
      repeat' first
      | (with_reducible exact ih0 _ _ _ _)
      | (with_reducible exact ih1 _ _ _ _)
      | (with_reducible exact ih2 _ _ _)
      | (with_reducible exact ih3 _ _ _ _)
      | (with_reducible exact ih4 _ _ _)
      | (with_reducible exact ih5 _ _ _ _)
      | (with_reducible exact bonsailaw04_live.mono _)
      | (with_reducible exact LeO.refl _)
      | (with_reducible exact LeO.none _)
      | (with_reducible refine LeO.ite ?_ ?_)
      | (with_reducible refine LeO.bind ?_ (fun _ => ?_))
      | exact ih0 _ _ _ _
      | exact ih1 _ _ _ _
      | exact ih2 _ _ _
      | exact ih3 _ _ _ _
      | exact ih4 _ _ _
      | exact ih5 _ _ _ _
      | exact bonsailaw04_live.mono _
      | exact LeO.none _
      | refine LeO.ite ?_ ?_
      | refine LeO.bind ?_ (fun _ => ?_)
    · intro y0 y1 y2 y3
      unfold bonsailaw04_WordParts.j1
      repeat' first
      | (with_reducible exact ih0 _ _ _ _)
      | (with_reducible exact ih1 _ _ _ _)
      | (with_reducible exact ih2 _ _ _)
      | (with_reducible exact ih3 _ _ _ _)
      | (with_reducible exact ih4 _ _ _)
      | (with_reducible exact ih5 _ _ _ _)
      | (with_reducible exact bonsailaw04_live.mono _)
      | (with_reducible exact LeO.refl _)
      | (with_reducible exact LeO.none _)
      | (with_reducible refine LeO.ite ?_ ?_)
      | (with_reducible refine LeO.bind ?_ (fun _ => ?_))
      | exact ih0 _ _ _ _
      | exact ih1 _ _ _ _
      | exact ih2 _ _ _
      | exact ih3 _ _ _ _
      | exact ih4 _ _ _
      | exact ih5 _ _ _ _
      | exact bonsailaw04_live.mono _
      | exact LeO.none _
      | refine LeO.ite ?_ ?_
      | refine LeO.bind ?_ (fun _ => ?_)
    · intro y0 y1 y2
      unfold bonsailaw04_WordParts.j2
      repeat' first
      | (with_reducible exact ih0 _ _ _ _)
      | (with_reducible exact ih1 _ _ _ _)
      | (with_reducible exact ih2 _ _ _)
      | (with_reducible exact ih3 _ _ _ _)
      | (with_reducible exact ih4 _ _ _)
      | (with_reducible exact ih5 _ _ _ _)
      | (with_reducible exact bonsailaw04_live.mono _)
      | (with_reducible exact LeO.refl _)
      | (with_reducible exact LeO.none _)
      | (with_reducible refine LeO.ite ?_ ?_)
      | (with_reducible refine LeO.bind ?_ (fun _ => ?_))
      | exact ih0 _ _ _ _
      | exact ih1 _ _ _ _
      | exact ih2 _ _ _
      | exact ih3 _ _ _ _
      | exact ih4 _ _ _
      | exact ih5 _ _ _ _
      | exact bonsailaw04_live.mono _
      | exact LeO.none _
      | refine LeO.ite ?_ ?_
      | refine LeO.bind ?_ (fun _ => ?_)
    · intro y0 y1 y2 y3
      unfold bonsailaw04_WordParts.j3
      repeat' first
      | (with_reducible exact ih0 _ _ _ _)
      | (with_reducible exact ih1 _ _ _ _)
      | (with_reducible exact ih2 _ _ _)
      | (with_reducible exact ih3 _ _ _ _)
      | (with_reducible exact ih4 _ _ _)
      | (with_reducible exact ih5 _ _ _ _)
      | (with_reducible exact bonsailaw04_live.mono _)
      | (with_reducible exact LeO.refl _)
      | (with_reducible exact LeO.none _)
      | (with_reducible refine LeO.ite ?_ ?_)
      | (with_reducible refine LeO.bind ?_ (fun _ => ?_))
      | exact ih0 _ _ _ _
      | exact ih1 _ _ _ _
      | exact ih2 _ _ _
      | exact ih3 _ _ _ _
      | exact ih4 _ _ _
      | exact ih5 _ _ _ _
      | exact bonsailaw04_live.mono _
      | exact LeO.none _
      | refine LeO.ite ?_ ?_
      | refine LeO.bind ?_ (fun _ => ?_)
    · intro y0 y1 y2
      unfold bonsailaw04_WordParts.l0
      repeat' first
      | (with_reducible exact ih0 _ _ _ _)
      | (with_reducible exact ih1 _ _ _ _)
      | (with_reducible exact ih2 _ _ _)
      | (with_reducible exact ih3 _ _ _ _)
      | (with_reducible exact ih4 _ _ _)
      | (with_reducible exact ih5 _ _ _ _)
      | (with_reducible exact bonsailaw04_live.mono _)
      | (with_reducible exact LeO.refl _)
      | (with_reducible exact LeO.none _)
      | (with_reducible refine LeO.ite ?_ ?_)
      | (with_reducible refine LeO.bind ?_ (fun _ => ?_))
      | exact ih0 _ _ _ _
      | exact ih1 _ _ _ _
      | exact ih2 _ _ _
      | exact ih3 _ _ _ _
      | exact ih4 _ _ _
      | exact ih5 _ _ _ _
      | exact bonsailaw04_live.mono _
      | exact LeO.none _
      | refine LeO.ite ?_ ?_
      | refine LeO.bind ?_ (fun _ => ?_)
    · intro y0 y1 y2 y3
      unfold bonsailaw04_WordParts.j5
      repeat' first
      | (with_reducible exact ih0 _ _ _ _)
      | (with_reducible exact ih1 _ _ _ _)
      | (with_reducible exact ih2 _ _ _)
      | (with_reducible exact ih3 _ _ _ _)
      | (with_reducible exact ih4 _ _ _)
      | (with_reducible exact ih5 _ _ _ _)
      | (with_reducible exact bonsailaw04_live.mono _)
      | (with_reducible exact LeO.refl _)
      | (with_reducible exact LeO.none _)
      | (with_reducible refine LeO.ite ?_ ?_)
      | (with_reducible refine LeO.bind ?_ (fun _ => ?_))
      | exact ih0 _ _ _ _
      | exact ih1 _ _ _ _
      | exact ih2 _ _ _
      | exact ih3 _ _ _ _
      | exact ih4 _ _ _
      | exact ih5 _ _ _ _
      | exact bonsailaw04_live.mono _
      | exact LeO.none _
      | refine LeO.ite ?_ ?_
      | refine LeO.bind ?_ (fun _ => ?_)
theorem bonsailaw04_WordParts.mono : ∀ a0 a1 a2 k, LeO (bonsailaw04_WordParts.f k a0 a1 a2) (bonsailaw04_WordParts.f (k + 1) a0 a1 a2) := by
  intro a0 a1 a2 k
  obtain ⟨ih0, ih1, ih2, ih3, ih4, ih5⟩ := bonsailaw04_WordParts.mono_l k
  unfold bonsailaw04_WordParts.f
  repeat' first
      | (with_reducible exact ih0 _ _ _ _)
      | (with_reducible exact ih1 _ _ _ _)
      | (with_reducible exact ih2 _ _ _)
      | (with_reducible exact ih3 _ _ _ _)
      | (with_reducible exact ih4 _ _ _)
      | (with_reducible exact ih5 _ _ _ _)
      | (with_reducible exact bonsailaw04_live.mono _)
      | (with_reducible exact LeO.refl _)
      | (with_reducible exact LeO.none _)
      | (with_reducible refine LeO.ite ?_ ?_)
      | (with_reducible refine LeO.bind ?_ (fun _ => ?_))
      | exact ih0 _ _ _ _
      | exact ih1 _ _ _ _
      | exact ih2 _ _ _
      | exact ih3 _ _ _ _
      | exact ih4 _ _ _
      | exact ih5 _ _ _ _
      | exact bonsailaw04_live.mono _
      | exact LeO.none _
      | refine LeO.ite ?_ ?_
      | refine LeO.bind ?_ (fun _ => ?_)
set_option maxHeartbeats 8000000 in
set_option maxRecDepth 100000 in
theorem bonsailaw04_WordParts.calls (k : Nat) (a0 : ByteArray) (a1 : ByteArray) (a2 : Int) (r : Bool) (w : World) (h : bonsailaw04_WordParts.f k a0 a1 a2 = some r) :
    Calls Try.prog 6 #[.string a0, .string a1, .int .i64 a2] w fun e w' => e = .returned (.bool r) ∧ Below w.heap.size w w' := by
  have HB := Aside0.mk (Below.refl w.heap.size w)
  have H : (if (a0.size : Int) > 300 then (bonsailaw04_WordParts.j0 k a0 a1 a2 true) else (bonsailaw04_WordParts.j0 k a0 a1 a2 (decide ((a1.size : Int) > 300)))) = some r := h
  clear h
  have HC4 := Aside0.mk H
  clear H
  go_enter Try.func6, Try.ntmps6
  go_upto_region 1 with (fail)
  go_cut [18] (fun v18 wc => ∃ (kq : Nat) (x18_3 : Bool), v18 = .bool x18_3 ∧ Aside0 (bonsailaw04_WordParts.j0 kq a0 a1 a2 x18_3 = some r) ∧ Aside0 (kq ≤ k) ∧ Aside0 (Below w.heap.size w wc))
  case first =>
    have H := HC4.out
    clear HC4
    by_cases c5 : (a0.size : Int) > 300
    · rw [if_pos c5] at H
      have c5b0 : decide (300 < (a0.size : Int)) = true := decide_eq_true c5
      have c5b1 : decide (300 < a0.size) = true := decide_eq_true (by omega)
      clear c5
      (first | rw [c5b0] | (simp only [i64_w, i32_w]; rw [c5b0]) | skip)
      have H' := Aside0.mk H
      clear H
      go_wp2
      go_meet
      case rel => exact ⟨_, (true), (by first | rfl | (simp; done) | (simp [*]; done)), H', ⟨by first | omega | exact Nat.le_refl _⟩, ⟨by repeat (first | (with_reducible first | exact HB.out | apply below_alloc | apply pw_below_drewN | apply below_drew1) | exact HB.out)⟩⟩
    · rw [if_neg c5] at H
      have c5b0 : decide (300 < (a0.size : Int)) = false := decide_eq_false c5
      have c5b1 : decide (300 < a0.size) = false := decide_eq_false (by omega)
      clear c5
      (first | rw [c5b0] | (simp only [i64_w, i32_w]; rw [c5b0]) | skip)
      have H' := Aside0.mk H
      clear H
      go_wp2
      go_meet
      case rel => exact ⟨_, (decide ((a1.size : Int) > 300)), (by first | rfl | (simp; done) | (simp [*]; done)), H', ⟨by first | omega | exact Nat.le_refl _⟩, ⟨by repeat (first | (with_reducible first | exact HB.out | apply below_alloc | apply pw_below_drewN | apply below_drew1) | exact HB.out)⟩⟩
  case rest =>
    clear HC4
    try clear p2
    try clear c5
    try clear c5b0
    try clear c5b1
    obtain ⟨kq, x18_3, rfl, HA, HJ3, HB⟩ := hcut
    cases kq with
    | zero => exact absurd HA.out (by simp [bonsailaw04_WordParts.j0])
    | succ kj3 =>
      have H := HA.out
      clear HA
      simp only [bonsailaw04_WordParts.j0] at H
      by_cases c6 : x18_3 = true
      · subst c6
        have H1 : ((bonsailaw04_live.f kj3).bind fun t219 => (some t219)) = some r := by rw [if_pos rfl] at H; exact H
        clear H
        have H := H1
        clear H1
        replace H := Option.bind_eq_some_iff.mp H
        obtain ⟨t219, A70, H⟩ := H
        replace H : (some t219) = some r := H
        have A7 := Aside0.mk A70
        clear A70
        obtain rfl := Option.some.inj H
        go_wp2_with (first | ((with_reducible refine gate_callee (f := 24) rfl ?_); refine goesL_ (some 19) rfl rfl Try.func24 (by kernel_rfl) rfl #[] rfl (by (try simp only [List.map_toArray, List.map_cons, List.map_nil]); first | done | rfl | (simp only [List.length_drop, List.length_take]; rfl)) ?_; (with_reducible refine (bonsailaw04_live.calls kj3  t219 _ A7.out).mono ?_); rintro e w8 ⟨rfl, hb⟩; refine ⟨_, rfl, ?_⟩; have n0_ := Aside0.mk (below_step (by repeat (first | (with_reducible first | exact HB.out | apply below_alloc | apply pw_below_drewN | apply below_drew1) | exact HB.out)) hb); clear HB; have HB := n0_; clear n0_; (try clear hb); (try clear hb2); (try clear hk); (try clear hi)))
        go_ret
        exact ⟨by first | rfl | (simp [errW_none, errW_some] <;> rfl) | (simp [*, errW_none, errW_some] <;> rfl), by repeat (first | (with_reducible first | exact HB.out | apply below_alloc | apply pw_below_drewN | apply below_drew1) | exact HB.out)⟩
      · replace c6 := Bool.eq_false_iff.mpr c6
        subst c6
        have H1 : ((word_First.f a0).bind fun bt220 => (if bt220.2 = true then (if bt220.1 < 0 then (bonsailaw04_WordParts.j1 kj3 a0 a1 a2 true) else (if bt220.1 ≥ (a0.size : Int) then (bonsailaw04_WordParts.j1 kj3 a0 a1 a2 true) else (if 0 ≤ bt220.1 then (if bt220.1 ≤ (a0.size : Int) then ((word_Valid.f (a0.extract 0 (bt220.1 : Int).toNat)).bind fun t222 => (if t222 = true then ((word_Valid.f a0).bind fun t223 => (if t223 = true then (bonsailaw04_WordParts.j1 kj3 a0 a1 a2 true) else (bonsailaw04_WordParts.j1 kj3 a0 a1 a2 false))) else (bonsailaw04_WordParts.j1 kj3 a0 a1 a2 true))) else (none)) else (none)))) else (bonsailaw04_WordParts.j1 kj3 a0 a1 a2 (bt220.1 != 0)))) = some r := by rw [if_neg (show ¬ (false = true) by decide)] at H; exact H
        clear H
        have H := H1
        clear H1
        replace H := Option.bind_eq_some_iff.mp H
        obtain ⟨⟨t220, t221⟩, A90, H⟩ := H
        replace H : (if t221 = true then (if t220 < 0 then (bonsailaw04_WordParts.j1 kj3 a0 a1 a2 true) else (if t220 ≥ (a0.size : Int) then (bonsailaw04_WordParts.j1 kj3 a0 a1 a2 true) else (if 0 ≤ t220 then (if t220 ≤ (a0.size : Int) then ((word_Valid.f (a0.extract 0 (t220 : Int).toNat)).bind fun t222 => (if t222 = true then ((word_Valid.f a0).bind fun t223 => (if t223 = true then (bonsailaw04_WordParts.j1 kj3 a0 a1 a2 true) else (bonsailaw04_WordParts.j1 kj3 a0 a1 a2 false))) else (bonsailaw04_WordParts.j1 kj3 a0 a1 a2 true))) else (none)) else (none)))) else (bonsailaw04_WordParts.j1 kj3 a0 a1 a2 (t220 != 0))) = some r := H
        have A9 := Aside0.mk A90
        clear A90
        have HC10 := Aside0.mk H
        clear H
        go_upto_region 4 with (first | ((with_reducible refine gate_callee (f := 25) rfl ?_); refine goesL_ (some 22) rfl rfl Try.func25 (by kernel_rfl) rfl #[.string a0] rfl (by (try simp only [List.map_toArray, List.map_cons, List.map_nil]); first | done | rfl | (simp only [List.length_drop, List.length_take]; rfl)) ?_; (with_reducible refine (word_First.calls a0 t220 t221 _ A9.out).mono ?_); rintro e w11 ⟨rfl, hb⟩; refine ⟨_, rfl, ?_⟩; have n0_ := Aside0.mk (below_step (by repeat (first | (with_reducible first | exact HB.out | apply below_alloc | apply pw_below_drewN | apply below_drew1) | exact HB.out)) hb); clear HB; have HB := n0_; clear n0_; (try clear hb); (try clear hb2); (try clear hk); (try clear hi)))
        (try simp only [Act.put, List.setIfInBounds_toArray, List.set_cons_zero, List.set_cons_succ])
        go_cut [54] (fun v54 wc => ∃ (kq : Nat) (x54_9 : Bool), v54 = .bool x54_9 ∧ Aside0 (bonsailaw04_WordParts.j1 kq a0 a1 a2 x54_9 = some r) ∧ Aside0 (kq ≤ kj3) ∧ Aside0 (Below w.heap.size w wc))
        case first =>
          have H := HC10.out
          clear HC10
          by_cases c12 : t221 = true
          · subst c12
            have H1 : (if t220 < 0 then (bonsailaw04_WordParts.j1 kj3 a0 a1 a2 true) else (if t220 ≥ (a0.size : Int) then (bonsailaw04_WordParts.j1 kj3 a0 a1 a2 true) else (if 0 ≤ t220 then (if t220 ≤ (a0.size : Int) then ((word_Valid.f (a0.extract 0 (t220 : Int).toNat)).bind fun t222 => (if t222 = true then ((word_Valid.f a0).bind fun t223 => (if t223 = true then (bonsailaw04_WordParts.j1 kj3 a0 a1 a2 true) else (bonsailaw04_WordParts.j1 kj3 a0 a1 a2 false))) else (bonsailaw04_WordParts.j1 kj3 a0 a1 a2 true))) else (none)) else (none)))) = some r := by rw [if_pos rfl] at H; exact H
            clear H
            have H := H1
            clear H1
            by_cases c13 : t220 < 0
            · rw [if_pos c13] at H
              have c13b0 : decide (t220 < 0) = true := decide_eq_true c13
              clear c13
              (first | rw [c13b0] | (simp only [i64_w, i32_w]; rw [c13b0]) | skip)
              have H' := Aside0.mk H
              clear H
              go_wp2
              go_meet
              case rel => exact ⟨_, (true), (by first | rfl | (simp; done) | (simp [*]; done)), H', ⟨by have := HJ3.out; first | omega | exact Nat.le_refl _⟩, ⟨by repeat (first | (with_reducible first | exact HB.out | apply below_alloc | apply pw_below_drewN | apply below_drew1) | exact HB.out)⟩⟩
            · rw [if_neg c13] at H
              have c13b0 : decide (t220 < 0) = false := decide_eq_false c13
              clear c13
              (first | rw [c13b0] | (simp only [i64_w, i32_w]; rw [c13b0]) | skip)
              by_cases c14 : t220 ≥ (a0.size : Int)
              · rw [if_pos c14] at H
                have c14b0 : decide ((a0.size : Int) ≤ t220) = true := decide_eq_true c14
                clear c14
                have H' := Aside0.mk H
                clear H
                go_wp2
                go_meet
                case rel => exact ⟨_, (true), (by first | rfl | (simp; done) | (simp [*]; done)), H', ⟨by have := HJ3.out; first | omega | exact Nat.le_refl _⟩, ⟨by repeat (first | (with_reducible first | exact HB.out | apply below_alloc | apply pw_below_drewN | apply below_drew1) | exact HB.out)⟩⟩
              · rw [if_neg c14] at H
                have c14b0 : decide ((a0.size : Int) ≤ t220) = false := decide_eq_false c14
                clear c14
                by_cases c15 : 0 ≤ t220
                · rw [if_pos c15] at H
                  have c15b0 := eq_true c15
                  have c15b1 : decide (0 ≤ t220) = true := decide_eq_true c15
                  clear c15
                  by_cases c16 : t220 ≤ (a0.size : Int)
                  · rw [if_pos c16] at H
                    have c16b0 := eq_true c16
                    have c16b1 : decide (t220 ≤ (a0.size : Int)) = true := decide_eq_true c16
                    clear c16
                    replace H := Option.bind_eq_some_iff.mp H
                    obtain ⟨t222, A170, H⟩ := H
                    replace H : (if t222 = true then ((word_Valid.f a0).bind fun t223 => (if t223 = true then (bonsailaw04_WordParts.j1 kj3 a0 a1 a2 true) else (bonsailaw04_WordParts.j1 kj3 a0 a1 a2 false))) else (bonsailaw04_WordParts.j1 kj3 a0 a1 a2 true)) = some r := H
                    have A17 := Aside0.mk A170
                    clear A170
                    by_cases c18 : t222 = true
                    · subst c18
                      have H1 : ((word_Valid.f a0).bind fun t223 => (if t223 = true then (bonsailaw04_WordParts.j1 kj3 a0 a1 a2 true) else (bonsailaw04_WordParts.j1 kj3 a0 a1 a2 false))) = some r := by rw [if_pos rfl] at H; exact H
                      clear H
                      have H := H1
                      clear H1
                      replace H := Option.bind_eq_some_iff.mp H
                      obtain ⟨t223, A190, H⟩ := H
                      replace H : (if t223 = true then (bonsailaw04_WordParts.j1 kj3 a0 a1 a2 true) else (bonsailaw04_WordParts.j1 kj3 a0 a1 a2 false)) = some r := H
                      have A19 := Aside0.mk A190
                      clear A190
                      by_cases c20 : t223 = true
                      · subst c20
                        have H1 : (bonsailaw04_WordParts.j1 kj3 a0 a1 a2 true) = some r := by rw [if_pos rfl] at H; exact H
                        clear H
                        have H := H1
                        clear H1
                        have H' := Aside0.mk H
                        clear H
                        go_wp2_with (first | (go_at_call 29; (with_reducible refine (word_Valid.calls (a0.extract 0 (t220 : Int).toNat) true _ A17.out).mono ?_); rintro e w21 ⟨rfl, hb⟩; have n0_ := Aside0.mk (below_step (by repeat (first | (with_reducible first | exact HB.out | apply below_alloc | apply pw_below_drewN | apply below_drew1) | exact HB.out)) hb); clear HB; have HB := n0_; clear n0_; (try clear hb); (try clear hb2); (try clear hk); (try clear hi)) | (go_at_call 29; (with_reducible refine (word_Valid.calls a0 true _ A19.out).mono ?_); rintro e w22 ⟨rfl, hb⟩; have n0_ := Aside0.mk (below_step (by repeat (first | (with_reducible first | exact HB.out | apply below_alloc | apply pw_below_drewN | apply below_drew1) | exact HB.out)) hb); clear HB; have HB := n0_; clear n0_; (try clear hb); (try clear hb2); (try clear hk); (try clear hi)))
                        go_meet
                        case rel => exact ⟨_, (true), (by first | rfl | (simp; done) | (simp [*]; done)), H', ⟨by have := HJ3.out; first | omega | exact Nat.le_refl _⟩, ⟨by repeat (first | (with_reducible first | exact HB.out | apply below_alloc | apply pw_below_drewN | apply below_drew1) | exact HB.out)⟩⟩
                      · replace c20 := Bool.eq_false_iff.mpr c20
                        subst c20
                        have H1 : (bonsailaw04_WordParts.j1 kj3 a0 a1 a2 false) = some r := by rw [if_neg (show ¬ (false = true) by decide)] at H; exact H
                        clear H
                        have H := H1
                        clear H1
                        have H' := Aside0.mk H
                        clear H
                        go_wp2_with (first | (go_at_call 29; (with_reducible refine (word_Valid.calls (a0.extract 0 (t220 : Int).toNat) true _ A17.out).mono ?_); rintro e w23 ⟨rfl, hb⟩; have n0_ := Aside0.mk (below_step (by repeat (first | (with_reducible first | exact HB.out | apply below_alloc | apply pw_below_drewN | apply below_drew1) | exact HB.out)) hb); clear HB; have HB := n0_; clear n0_; (try clear hb); (try clear hb2); (try clear hk); (try clear hi)) | (go_at_call 29; (with_reducible refine (word_Valid.calls a0 false _ A19.out).mono ?_); rintro e w24 ⟨rfl, hb⟩; have n0_ := Aside0.mk (below_step (by repeat (first | (with_reducible first | exact HB.out | apply below_alloc | apply pw_below_drewN | apply below_drew1) | exact HB.out)) hb); clear HB; have HB := n0_; clear n0_; (try clear hb); (try clear hb2); (try clear hk); (try clear hi)))
                        go_meet
                        case rel => exact ⟨_, (false), (by first | rfl | (simp; done) | (simp [*]; done)), H', ⟨by have := HJ3.out; first | omega | exact Nat.le_refl _⟩, ⟨by repeat (first | (with_reducible first | exact HB.out | apply below_alloc | apply pw_below_drewN | apply below_drew1) | exact HB.out)⟩⟩
                    · replace c18 := Bool.eq_false_iff.mpr c18
                      subst c18
                      have H1 : (bonsailaw04_WordParts.j1 kj3 a0 a1 a2 true) = some r := by rw [if_neg (show ¬ (false = true) by decide)] at H; exact H
                      clear H
                      have H := H1
                      clear H1
                      have H' := Aside0.mk H
                      clear H
                      go_wp2_with (first | (go_at_call 29; (with_reducible refine (word_Valid.calls (a0.extract 0 (t220 : Int).toNat) false _ A17.out).mono ?_); rintro e w25 ⟨rfl, hb⟩; have n0_ := Aside0.mk (below_step (by repeat (first | (with_reducible first | exact HB.out | apply below_alloc | apply pw_below_drewN | apply below_drew1) | exact HB.out)) hb); clear HB; have HB := n0_; clear n0_; (try clear hb); (try clear hb2); (try clear hk); (try clear hi)))
                      go_meet
                      case rel => exact ⟨_, (true), (by first | rfl | (simp; done) | (simp [*]; done)), H', ⟨by have := HJ3.out; first | omega | exact Nat.le_refl _⟩, ⟨by repeat (first | (with_reducible first | exact HB.out | apply below_alloc | apply pw_below_drewN | apply below_drew1) | exact HB.out)⟩⟩
                  · rw [if_neg c16] at H
                    exact absurd H (by simp)
                · rw [if_neg c15] at H
                  exact absurd H (by simp)
          · replace c12 := Bool.eq_false_iff.mpr c12
            subst c12
            have H1 : (bonsailaw04_WordParts.j1 kj3 a0 a1 a2 (t220 != 0)) = some r := by rw [if_neg (show ¬ (false = true) by decide)] at H; exact H
            clear H
            have H := H1
            clear H1
            have H' := Aside0.mk H
            clear H
            go_wp2
            go_meet
            case rel => exact ⟨_, ((t220 != 0)), (by first | rfl | (simp; done) | (simp [*]; done)), H', ⟨by have := HJ3.out; first | omega | exact Nat.le_refl _⟩, ⟨by repeat (first | (with_reducible first | exact HB.out | apply below_alloc | apply pw_below_drewN | apply below_drew1) | exact HB.out)⟩⟩
        case rest =>
          clear HC10
          try clear c1
          try clear c2
          try clear p2
          try clear c5
          try clear c5b0
          try clear c5b1
          try clear c6
          try clear c12
          try clear c13
          try clear c13b0
          try clear c14
          try clear c14b0
          try clear c15
          try clear c15b0
          try clear c15b1
          try clear c16
          try clear c16b0
          try clear c16b1
          try clear c18
          try clear c20
          try clear c24
          try clear c25
          try clear p2
          obtain ⟨kq, x54_9, rfl, HA, HJ9, HB⟩ := hcut
          cases kq with
          | zero => exact absurd HA.out (by simp [bonsailaw04_WordParts.j1])
          | succ kj9 =>
            have H := HA.out
            clear HA
            simp only [bonsailaw04_WordParts.j1] at H
            by_cases c26 : x54_9 = true
            · subst c26
              have H1 : (none) = some r := by rw [if_pos rfl] at H; exact H
              clear H
              have H := H1
              clear H1
              exact absurd H (by simp)
            · replace c26 := Bool.eq_false_iff.mpr c26
              subst c26
              have H1 : ((word_Valid.f a0).bind fun t224 => (if t224 = true then (if a0.size + a1.size ≤ 9223372036854775807 then ((word_Valid.f (a0 ++ a1)).bind fun t225 => ((word_Valid.f a1).bind fun t226 => (bonsailaw04_WordParts.j2 kj9 a0 a2 (t225 != t226)))) else (none)) else (bonsailaw04_WordParts.j2 kj9 a0 a2 false))) = some r := by rw [if_neg (show ¬ (false = true) by decide)] at H; exact H
              clear H
              have H := H1
              clear H1
              have HC27 := Aside0.mk H
              clear H
              go_upto_region 6 with (fail)
              go_cut [65] (fun v65 wc => ∃ (kq : Nat) (x65_26 : Bool), v65 = .bool x65_26 ∧ Aside0 (bonsailaw04_WordParts.j2 kq a0 a2 x65_26 = some r) ∧ Aside0 (kq ≤ kj9) ∧ Aside0 (Below w.heap.size w wc))
              case first =>
                have H := HC27.out
                clear HC27
                replace H := Option.bind_eq_some_iff.mp H
                obtain ⟨t224, A280, H⟩ := H
                replace H : (if t224 = true then (if a0.size + a1.size ≤ 9223372036854775807 then ((word_Valid.f (a0 ++ a1)).bind fun t225 => ((word_Valid.f a1).bind fun t226 => (bonsailaw04_WordParts.j2 kj9 a0 a2 (t225 != t226)))) else (none)) else (bonsailaw04_WordParts.j2 kj9 a0 a2 false)) = some r := H
                have A28 := Aside0.mk A280
                clear A280
                by_cases c29 : t224 = true
                · subst c29
                  have H1 : (if a0.size + a1.size ≤ 9223372036854775807 then ((word_Valid.f (a0 ++ a1)).bind fun t225 => ((word_Valid.f a1).bind fun t226 => (bonsailaw04_WordParts.j2 kj9 a0 a2 (t225 != t226)))) else (none)) = some r := by rw [if_pos rfl] at H; exact H
                  clear H
                  have H := H1
                  clear H1
                  by_cases c30 : a0.size + a1.size ≤ 9223372036854775807
                  · rw [if_pos c30] at H
                    have c30b0 := eq_true c30
                    have c30b1 : decide (a0.size + a1.size ≤ 9223372036854775807) = true := decide_eq_true c30
                    try have c30b2 : (9223372036854775807 < a0.size + a1.size) = False := eq_false (Nat.not_lt.2 c30)
                    clear c30
                    replace H := Option.bind_eq_some_iff.mp H
                    obtain ⟨t225, A310, H⟩ := H
                    replace H : ((word_Valid.f a1).bind fun t226 => (bonsailaw04_WordParts.j2 kj9 a0 a2 (t225 != t226))) = some r := H
                    have A31 := Aside0.mk A310
                    clear A310
                    replace H := Option.bind_eq_some_iff.mp H
                    obtain ⟨t226, A320, H⟩ := H
                    replace H : (bonsailaw04_WordParts.j2 kj9 a0 a2 (t225 != t226)) = some r := H
                    have A32 := Aside0.mk A320
                    clear A320
                    have H' := Aside0.mk H
                    clear H
                    go_wp2_with (first | ((with_reducible refine gate_callee (f := 29) rfl ?_); refine goesL_ (some 56) rfl rfl Try.func29 (by kernel_rfl) rfl #[.string a0] rfl (by (try simp only [List.map_toArray, List.map_cons, List.map_nil]); first | done | rfl | (simp only [List.length_drop, List.length_take]; rfl)) ?_; (with_reducible refine (word_Valid.calls a0 true _ A28.out).mono ?_); rintro e w33 ⟨rfl, hb⟩; refine ⟨_, rfl, ?_⟩; have n0_ := Aside0.mk (below_step (by repeat (first | (with_reducible first | exact HB.out | apply below_alloc | apply pw_below_drewN | apply below_drew1) | exact HB.out)) hb); clear HB; have HB := n0_; clear n0_; (try clear hb); (try clear hb2); (try clear hk); (try clear hi)) | (go_at_call 29; (with_reducible refine (word_Valid.calls (a0 ++ a1) t225 _ A31.out).mono ?_); rintro e w34 ⟨rfl, hb⟩; have n0_ := Aside0.mk (below_step (by repeat (first | (with_reducible first | exact HB.out | apply below_alloc | apply pw_below_drewN | apply below_drew1) | exact HB.out)) hb); clear HB; have HB := n0_; clear n0_; (try clear hb); (try clear hb2); (try clear hk); (try clear hi)) | (go_at_call 29; (with_reducible refine (word_Valid.calls a1 t226 _ A32.out).mono ?_); rintro e w35 ⟨rfl, hb⟩; have n0_ := Aside0.mk (below_step (by repeat (first | (with_reducible first | exact HB.out | apply below_alloc | apply pw_below_drewN | apply below_drew1) | exact HB.out)) hb); clear HB; have HB := n0_; clear n0_; (try clear hb); (try clear hb2); (try clear hk); (try clear hi)))
                    go_meet
                    case rel => exact ⟨_, ((t225 != t226)), (by first | rfl | (simp; done) | (simp [*]; done)), H', ⟨by have := HJ3.out; have := HJ9.out; first | omega | exact Nat.le_refl _⟩, ⟨by repeat (first | (with_reducible first | exact HB.out | apply below_alloc | apply pw_below_drewN | apply below_drew1) | exact HB.out)⟩⟩
                  · rw [if_neg c30] at H
                    exact absurd H (by simp)
                · replace c29 := Bool.eq_false_iff.mpr c29
                  subst c29
                  have H1 : (bonsailaw04_WordParts.j2 kj9 a0 a2 false) = some r := by rw [if_neg (show ¬ (false = true) by decide)] at H; exact H
                  clear H
                  have H := H1
                  clear H1
                  have H' := Aside0.mk H
                  clear H
                  go_wp2_with (first | ((with_reducible refine gate_callee (f := 29) rfl ?_); refine goesL_ (some 56) rfl rfl Try.func29 (by kernel_rfl) rfl #[.string a0] rfl (by (try simp only [List.map_toArray, List.map_cons, List.map_nil]); first | done | rfl | (simp only [List.length_drop, List.length_take]; rfl)) ?_; (with_reducible refine (word_Valid.calls a0 false _ A28.out).mono ?_); rintro e w36 ⟨rfl, hb⟩; refine ⟨_, rfl, ?_⟩; have n0_ := Aside0.mk (below_step (by repeat (first | (with_reducible first | exact HB.out | apply below_alloc | apply pw_below_drewN | apply below_drew1) | exact HB.out)) hb); clear HB; have HB := n0_; clear n0_; (try clear hb); (try clear hb2); (try clear hk); (try clear hi)))
                  go_meet
                  case rel => exact ⟨_, (false), (by first | rfl | (simp; done) | (simp [*]; done)), H', ⟨by have := HJ3.out; have := HJ9.out; first | omega | exact Nat.le_refl _⟩, ⟨by repeat (first | (with_reducible first | exact HB.out | apply below_alloc | apply pw_below_drewN | apply below_drew1) | exact HB.out)⟩⟩
              case rest =>
                clear HC27
                try clear c1
                try clear c2
                try clear p2
                try clear c3
                try clear c5
                try clear c5b0
                try clear c5b1
                try clear c6
                try clear c12
                try clear c13
                try clear c13b0
                try clear c14
                try clear c14b0
                try clear c15
                try clear c15b0
                try clear c15b1
                try clear c16
                try clear c16b0
                try clear c16b1
                try clear c18
                try clear c20
                try clear c24
                try clear c25
                try clear c26
                try clear c29
                try clear c30
                try clear c30b0
                try clear c30b1
                try clear c30b2
                try clear p2
                obtain ⟨kq, x65_26, rfl, HA, HJ26, HB⟩ := hcut
                cases kq with
                | zero => exact absurd HA.out (by simp [bonsailaw04_WordParts.j2])
                | succ kj26 =>
                  have H := HA.out
                  clear HA
                  simp only [bonsailaw04_WordParts.j2] at H
                  by_cases c37 : x65_26 = true
                  · subst c37
                    have H1 : (none) = some r := by rw [if_pos rfl] at H; exact H
                    clear H
                    have H := H1
                    clear H1
                    exact absurd H (by simp)
                  · replace c37 := Bool.eq_false_iff.mpr c37
                    subst c37
                    have H1 : ((word_Cut.f a0 a2).bind fun t227 => (if (t227.size : Int) > (mx a2 0) then (bonsailaw04_WordParts.j3 kj26 a0 a2 t227 true) else (if (t227.size : Int) > (a0.size : Int) then (bonsailaw04_WordParts.j3 kj26 a0 a2 t227 true) else (if 0 ≤ (t227.size : Int) then (if (t227.size : Int) ≤ (a0.size : Int) then (if (a0.extract 0 t227.size).toList = t227.toList then ((word_Valid.f t227).bind fun t228 => (bonsailaw04_WordParts.j3 kj26 a0 a2 t227 (!t228))) else (bonsailaw04_WordParts.j3 kj26 a0 a2 t227 true)) else (none)) else (none))))) = some r := by rw [if_neg (show ¬ (false = true) by decide)] at H; exact H
                    clear H
                    have H := H1
                    clear H1
                    replace H := Option.bind_eq_some_iff.mp H
                    obtain ⟨t227, A380, H⟩ := H
                    replace H : (if (t227.size : Int) > (mx a2 0) then (bonsailaw04_WordParts.j3 kj26 a0 a2 t227 true) else (if (t227.size : Int) > (a0.size : Int) then (bonsailaw04_WordParts.j3 kj26 a0 a2 t227 true) else (if 0 ≤ (t227.size : Int) then (if (t227.size : Int) ≤ (a0.size : Int) then (if (a0.extract 0 t227.size).toList = t227.toList then ((word_Valid.f t227).bind fun t228 => (bonsailaw04_WordParts.j3 kj26 a0 a2 t227 (!t228))) else (bonsailaw04_WordParts.j3 kj26 a0 a2 t227 true)) else (none)) else (none)))) = some r := H
                    have A38 := Aside0.mk A380
                    clear A380
                    have HC39 := Aside0.mk H
                    clear H
                    go_upto_region 9 with (first | ((with_reducible refine gate_callee (f := 31) rfl ?_); refine goesL_ (some 68) rfl rfl Try.func31 (by kernel_rfl) rfl #[.string a0, .int .i64 a2] rfl (by (try simp only [List.map_toArray, List.map_cons, List.map_nil]); first | done | rfl | (simp only [List.length_drop, List.length_take]; rfl)) ?_; (with_reducible refine (word_Cut.calls a0 a2 t227 _ A38.out).mono ?_); rintro e w40 ⟨rfl, hb⟩; refine ⟨_, rfl, ?_⟩; have n0_ := Aside0.mk (below_step (by repeat (first | (with_reducible first | exact HB.out | apply below_alloc | apply pw_below_drewN | apply below_drew1) | exact HB.out)) hb); clear HB; have HB := n0_; clear n0_; (try clear hb); (try clear hb2); (try clear hk); (try clear hi)))
                    (try simp only [Act.put, List.setIfInBounds_toArray, List.set_cons_zero, List.set_cons_succ])
                    go_cut [93] (fun v93 wc => ∃ (kq : Nat) (x93_38 : Bool), v93 = .bool x93_38 ∧ Aside0 (bonsailaw04_WordParts.j3 kq a0 a2 t227 x93_38 = some r) ∧ Aside0 (kq ≤ kj26) ∧ Aside0 (Below w.heap.size w wc))
                    case first =>
                      have H := HC39.out
                      clear HC39
                      obtain ⟨ji41, hji41⟩ : ∃ j_ : Int, (mx a2 0) = j_ := ⟨_, rfl⟩
                      replace H : (if (t227.size : Int) > (ji41) then (bonsailaw04_WordParts.j3 kj26 a0 a2 t227 true) else (if (t227.size : Int) > (a0.size : Int) then (bonsailaw04_WordParts.j3 kj26 a0 a2 t227 true) else (if 0 ≤ (t227.size : Int) then (if (t227.size : Int) ≤ (a0.size : Int) then (if (a0.extract 0 t227.size).toList = t227.toList then ((word_Valid.f t227).bind fun t228 => (bonsailaw04_WordParts.j3 kj26 a0 a2 t227 (!t228))) else (bonsailaw04_WordParts.j3 kj26 a0 a2 t227 true)) else (none)) else (none)))) = some r := by first | (rw [hji41] at H; exact H) | (simp only [hji41] at H ⊢; exact H)
                      have hji41_ : (if a2 < 0 then 0 else a2) = ji41 := hji41
                      by_cases c42 : (t227.size : Int) > (ji41)
                      · rw [if_pos c42] at H
                        have c42b0 : decide ((ji41) < (t227.size : Int)) = true := decide_eq_true c42
                        clear c42
                        (first | rw [c42b0] | (simp only [i64_w, i32_w]; rw [c42b0]) | skip)
                        have H' := Aside0.mk H
                        clear H
                        go_wp2
                        go_meet
                        case rel => exact ⟨_, (true), (by first | rfl | (simp; done) | (simp [*]; done)), H', ⟨by have := HJ3.out; have := HJ9.out; have := HJ26.out; first | omega | exact Nat.le_refl _⟩, ⟨by repeat (first | (with_reducible first | exact HB.out | apply below_alloc | apply pw_below_drewN | apply below_drew1) | exact HB.out)⟩⟩
                      · rw [if_neg c42] at H
                        have c42b0 : decide ((ji41) < (t227.size : Int)) = false := decide_eq_false c42
                        clear c42
                        (first | rw [c42b0] | (simp only [i64_w, i32_w]; rw [c42b0]) | skip)
                        by_cases c43 : (t227.size : Int) > (a0.size : Int)
                        · rw [if_pos c43] at H
                          have c43b0 : decide ((a0.size : Int) < (t227.size : Int)) = true := decide_eq_true c43
                          have c43b1 : decide (a0.size < t227.size) = true := decide_eq_true (Int.ofNat_lt.mp c43)
                          clear c43
                          have H' := Aside0.mk H
                          clear H
                          go_wp2
                          go_meet
                          case rel => exact ⟨_, (true), (by first | rfl | (simp; done) | (simp [*]; done)), H', ⟨by have := HJ3.out; have := HJ9.out; have := HJ26.out; first | omega | exact Nat.le_refl _⟩, ⟨by repeat (first | (with_reducible first | exact HB.out | apply below_alloc | apply pw_below_drewN | apply below_drew1) | exact HB.out)⟩⟩
                        · rw [if_neg c43] at H
                          have c43b0 : decide ((a0.size : Int) < (t227.size : Int)) = false := decide_eq_false c43
                          have c43b1 : decide (a0.size < t227.size) = false := decide_eq_false (fun h => c43 (Int.ofNat_lt.mpr h))
                          clear c43
                          by_cases c44 : 0 ≤ (t227.size : Int)
                          · rw [if_pos c44] at H
                            have c44b0 := eq_true c44
                            have c44b1 : decide (0 ≤ (t227.size : Int)) = true := decide_eq_true c44
                            clear c44
                            by_cases c45 : (t227.size : Int) ≤ (a0.size : Int)
                            · rw [if_pos c45] at H
                              have c45b0 := eq_true c45
                              have c45b1 : decide ((t227.size : Int) ≤ (a0.size : Int)) = true := decide_eq_true c45
                              clear c45
                              by_cases c46 : (a0.extract 0 t227.size).toList = t227.toList
                              · rw [if_pos c46] at H
                                have c46b0 : ((a0.extract 0 t227.size).toList == t227.toList) = true := beq_iff_eq.mpr c46
                                have c46b1 : ((a0.extract 0 t227.size).toList != t227.toList) = false := bne_eq_false_iff_eq.mpr c46
                                clear c46
                                replace H := Option.bind_eq_some_iff.mp H
                                obtain ⟨t228, A470, H⟩ := H
                                replace H : (bonsailaw04_WordParts.j3 kj26 a0 a2 t227 (!t228)) = some r := H
                                have A47 := Aside0.mk A470
                                clear A470
                                have H' := Aside0.mk H
                                clear H
                                go_wp2_with (first | (go_at_call 29; (with_reducible refine (word_Valid.calls t227 t228 _ A47.out).mono ?_); rintro e w48 ⟨rfl, hb⟩; have n0_ := Aside0.mk (below_step (by repeat (first | (with_reducible first | exact HB.out | apply below_alloc | apply pw_below_drewN | apply below_drew1) | exact HB.out)) hb); clear HB; have HB := n0_; clear n0_; (try clear hb); (try clear hb2); (try clear hk); (try clear hi)))
                                go_meet
                                case rel => exact ⟨_, (!t228), (by first | rfl | (simp; done) | (simp [*]; done)), H', ⟨by have := HJ3.out; have := HJ9.out; have := HJ26.out; first | omega | exact Nat.le_refl _⟩, ⟨by repeat (first | (with_reducible first | exact HB.out | apply below_alloc | apply pw_below_drewN | apply below_drew1) | exact HB.out)⟩⟩
                              · rw [if_neg c46] at H
                                have c46b0 : ((a0.extract 0 t227.size).toList == t227.toList) = false := beq_eq_false_iff_ne.mpr c46
                                have c46b1 : ((a0.extract 0 t227.size).toList != t227.toList) = true := bne_iff_ne.mpr c46
                                have H' := Aside0.mk H
                                clear H
                                go_wp2
                                go_meet
                                case rel => exact ⟨_, (true), (by first | rfl | (simp; done) | (simp [*]; done)), H', ⟨by have := HJ3.out; have := HJ9.out; have := HJ26.out; first | omega | exact Nat.le_refl _⟩, ⟨by repeat (first | (with_reducible first | exact HB.out | apply below_alloc | apply pw_below_drewN | apply below_drew1) | exact HB.out)⟩⟩
                            · rw [if_neg c45] at H
                              exact absurd H (by simp)
                          · rw [if_neg c44] at H
                            exact absurd H (by simp)
                    case rest =>
                      clear HC39
                      try clear c1
                      try clear c2
                      try clear p2
                      try clear c3
                      try clear c4
                      try clear c5
                      try clear c5b0
                      try clear c5b1
                      try clear c6
                      try clear c12
                      try clear c13
                      try clear c13b0
                      try clear c14
                      try clear c14b0
                      try clear c15
                      try clear c15b0
                      try clear c15b1
                      try clear c16
                      try clear c16b0
                      try clear c16b1
                      try clear c18
                      try clear c20
                      try clear c24
                      try clear c25
                      try clear c26
                      try clear c29
                      try clear c30
                      try clear c30b0
                      try clear c30b1
                      try clear c30b2
                      try clear c31
                      try clear c37
                      try clear c42
                      try clear c42b0
                      try clear c43
                      try clear c43b0
                      try clear c43b1
                      try clear c44
                      try clear c44b0
                      try clear c44b1
                      try clear c45
                      try clear c45b0
                      try clear c45b1
                      try clear c46
                      try clear c46b0
                      try clear c46b1
                      try clear p2
                      obtain ⟨kq, x93_38, rfl, HA, HJ38, HB⟩ := hcut
                      cases kq with
                      | zero => exact absurd HA.out (by simp [bonsailaw04_WordParts.j3])
                      | succ kj38 =>
                        have H := HA.out
                        clear HA
                        simp only [bonsailaw04_WordParts.j3] at H
                        by_cases c49 : x93_38 = true
                        · subst c49
                          have H1 : (none) = some r := by rw [if_pos rfl] at H; exact H
                          clear H
                          have H := H1
                          clear H1
                          exact absurd H (by simp)
                        · replace c49 := Bool.eq_false_iff.mpr c49
                          subst c49
                          have H1 : (bonsailaw04_WordParts.l0 kj38 a0 a2 (wrap64 ((t227.size : Int) + 1))) = some r := by rw [if_neg (show ¬ (false = true) by decide)] at H; exact H
                          clear H
                          have H := H1
                          clear H1
                          have H' := Aside0.mk H
                          clear H
                          go_wp2
                          go_loopg [10] kj38 (fun kq v10 w' => ∃ (x10_5 : Int), v10 = .int .i64 x10_5 ∧ Aside0 (bonsailaw04_WordParts.l0 kq a0 a2 x10_5 = some r) ∧ Aside0 (kq ≤ kj38) ∧ Aside0 (Below w.heap.size w w'))
                          case atStart => exact ⟨(wrap64 ((t227.size : Int) + 1)), (by first | rfl | (simp; done) | (simp [*]; done)), H', ⟨Nat.le_refl _⟩, ⟨by repeat (first | (with_reducible first | exact HB.out | apply below_alloc | apply pw_below_drewN | apply below_drew1) | exact HB.out)⟩⟩
                          case round =>
                            clear H'
                            try clear c1
                            try clear c2
                            try clear p2
                            try clear c3
                            try clear c4
                            try clear c5
                            try clear c5b0
                            try clear c5b1
                            try clear c6
                            try clear p6
                            try clear c12
                            try clear c13
                            try clear c13b0
                            try clear c14
                            try clear c14b0
                            try clear c15
                            try clear c15b0
                            try clear c15b1
                            try clear c16
                            try clear c16b0
                            try clear c16b1
                            try clear c18
                            try clear c20
                            try clear c24
                            try clear c25
                            try clear c26
                            try clear c29
                            try clear c30
                            try clear c30b0
                            try clear c30b1
                            try clear c30b2
                            try clear c31
                            try clear c37
                            try clear c42
                            try clear c42b0
                            try clear c43
                            try clear c43b0
                            try clear c43b1
                            try clear c44
                            try clear c44b0
                            try clear c44b1
                            try clear c45
                            try clear c45b0
                            try clear c45b1
                            try clear c46
                            try clear c46b0
                            try clear c46b1
                            try clear c49
                            try clear p2
                            obtain ⟨x10_5, rfl, HA, HK5, HB⟩ := hrel
                            cases gk with
                            | zero => exact absurd HA.out (by simp [bonsailaw04_WordParts.l0])
                            | succ k5 =>
                              have H := HA.out
                              clear HA
                              simp only [bonsailaw04_WordParts.l0] at H
                              have HC50 := Aside0.mk H
                              clear H
                              go_upto_region 12 with (fail)
                              go_cut [105] (fun v105 wc => ∃ (kq : Nat) (x105_49 : Bool), v105 = .bool x105_49 ∧ Aside0 (bonsailaw04_WordParts.j5 kq a0 a2 x10_5 x105_49 = some r) ∧ Aside0 (kq ≤ k5) ∧ Aside0 (Below w.heap.size w wc))
                              case first =>
                                have H := HC50.out
                                clear HC50
                                by_cases c51 : x10_5 ≤ (a0.size : Int)
                                · rw [if_pos c51] at H
                                  have c51b0 : decide (x10_5 ≤ (a0.size : Int)) = true := decide_eq_true c51
                                  clear c51
                                  (first | rw [c51b0] | (simp only [i64_w, i32_w]; rw [c51b0]) | skip)
                                  have H' := Aside0.mk H
                                  clear H
                                  go_wp2
                                  go_meet
                                  case rel => exact ⟨_, (decide (x10_5 ≤ a2)), (by first | rfl | (simp; done) | (simp [*]; done)), H', ⟨by have := HJ3.out; have := HJ9.out; have := HJ26.out; have := HJ38.out; have := HK5.out; first | omega | exact Nat.le_refl _⟩, ⟨by repeat (first | (with_reducible first | exact HB.out | apply below_alloc | apply pw_below_drewN | apply below_drew1) | exact HB.out)⟩⟩
                                · rw [if_neg c51] at H
                                  have c51b0 : decide (x10_5 ≤ (a0.size : Int)) = false := decide_eq_false c51
                                  clear c51
                                  (first | rw [c51b0] | (simp only [i64_w, i32_w]; rw [c51b0]) | skip)
                                  have H' := Aside0.mk H
                                  clear H
                                  go_wp2
                                  go_meet
                                  case rel => exact ⟨_, (false), (by first | rfl | (simp; done) | (simp [*]; done)), H', ⟨by have := HJ3.out; have := HJ9.out; have := HJ26.out; have := HJ38.out; have := HK5.out; first | omega | exact Nat.le_refl _⟩, ⟨by repeat (first | (with_reducible first | exact HB.out | apply below_alloc | apply pw_below_drewN | apply below_drew1) | exact HB.out)⟩⟩
                              case rest =>
                                clear HC50
                                try clear c1
                                try clear c2
                                try clear p2
                                try clear c3
                                try clear c4
                                try clear c5
                                try clear c5b0
                                try clear c5b1
                                try clear c6
                                try clear p6
                                try clear c12
                                try clear c13
                                try clear c13b0
                                try clear c14
                                try clear c14b0
                                try clear c15
                                try clear c15b0
                                try clear c15b1
                                try clear c16
                                try clear c16b0
                                try clear c16b1
                                try clear c18
                                try clear c20
                                try clear c24
                                try clear c25
                                try clear c26
                                try clear c29
                                try clear c30
                                try clear c30b0
                                try clear c30b1
                                try clear c30b2
                                try clear c31
                                try clear c37
                                try clear c42
                                try clear c42b0
                                try clear c43
                                try clear c43b0
                                try clear c43b1
                                try clear c44
                                try clear c44b0
                                try clear c44b1
                                try clear c45
                                try clear c45b0
                                try clear c45b1
                                try clear c46
                                try clear c46b0
                                try clear c46b1
                                try clear c49
                                try clear c51
                                try clear c51b0
                                try clear p2
                                try clear p6
                                obtain ⟨kq, x105_49, rfl, HA, HJ49, HB⟩ := hcut
                                cases kq with
                                | zero => exact absurd HA.out (by simp [bonsailaw04_WordParts.j5])
                                | succ kj49 =>
                                  have H := HA.out
                                  clear HA
                                  simp only [bonsailaw04_WordParts.j5] at H
                                  by_cases c52 : x105_49 = true
                                  · subst c52
                                    have H1 : (if 0 ≤ x10_5 then (if x10_5 ≤ (a0.size : Int) then ((word_Valid.f (a0.extract 0 (x10_5 : Int).toNat)).bind fun t229 => (if t229 = true then (none) else (bonsailaw04_WordParts.l0 kj49 a0 a2 (wrap64 (x10_5 + 1))))) else (none)) else (none)) = some r := by rw [if_pos rfl] at H; exact H
                                    clear H
                                    have H := H1
                                    clear H1
                                    by_cases c53 : 0 ≤ x10_5
                                    · rw [if_pos c53] at H
                                      have c53b0 := eq_true c53
                                      have c53b1 : decide (0 ≤ x10_5) = true := decide_eq_true c53
                                      clear c53
                                      by_cases c54 : x10_5 ≤ (a0.size : Int)
                                      · rw [if_pos c54] at H
                                        have c54b0 := eq_true c54
                                        have c54b1 : decide (x10_5 ≤ (a0.size : Int)) = true := decide_eq_true c54
                                        clear c54
                                        replace H := Option.bind_eq_some_iff.mp H
                                        obtain ⟨t229, A550, H⟩ := H
                                        replace H : (if t229 = true then (none) else (bonsailaw04_WordParts.l0 kj49 a0 a2 (wrap64 (x10_5 + 1)))) = some r := H
                                        have A55 := Aside0.mk A550
                                        clear A550
                                        by_cases c56 : t229 = true
                                        · subst c56
                                          have H1 : (none) = some r := by rw [if_pos rfl] at H; exact H
                                          clear H
                                          have H := H1
                                          clear H1
                                          exact absurd H (by simp)
                                        · replace c56 := Bool.eq_false_iff.mpr c56
                                          subst c56
                                          have H1 : (bonsailaw04_WordParts.l0 kj49 a0 a2 (wrap64 (x10_5 + 1))) = some r := by rw [if_neg (show ¬ (false = true) by decide)] at H; exact H
                                          clear H
                                          have H := H1
                                          clear H1
                                          have H' := Aside0.mk H
                                          clear H
                                          go_wp2_with (first | ((with_reducible refine gate_callee (f := 29) rfl ?_); refine goesL_ (some 111) rfl rfl Try.func29 (by kernel_rfl) rfl #[.string (a0.extract 0 (x10_5 : Int).toNat)] rfl (by (try simp only [List.map_toArray, List.map_cons, List.map_nil]); first | done | rfl | (simp only [List.length_drop, List.length_take]; rfl)) ?_; (with_reducible refine (word_Valid.calls (a0.extract 0 (x10_5 : Int).toNat) false _ A55.out).mono ?_); rintro e w57 ⟨rfl, hb⟩; refine ⟨_, rfl, ?_⟩; have n0_ := Aside0.mk (below_step (by repeat (first | (with_reducible first | exact HB.out | apply below_alloc | apply pw_below_drewN | apply below_drew1) | exact HB.out)) hb); clear HB; have HB := n0_; clear n0_; (try clear hb); (try clear hb2); (try clear hk); (try clear hi)))
                                          go_roundg kj49
                                          case measure => have := HJ3.out; have := HJ9.out; have := HJ26.out; have := HJ38.out; have := HK5.out; have := HJ49.out; omega
                                          case rel => exact ⟨(wrap64 (x10_5 + 1)), (by first | rfl | (simp; done) | (simp [*]; done)), H', ⟨by have := HJ3.out; have := HJ9.out; have := HJ26.out; have := HJ38.out; have := HK5.out; have := HJ49.out; omega⟩, ⟨by repeat (first | (with_reducible first | exact HB.out | apply below_alloc | apply pw_below_drewN | apply below_drew1) | exact HB.out)⟩⟩
                                      · rw [if_neg c54] at H
                                        exact absurd H (by simp)
                                    · rw [if_neg c53] at H
                                      exact absurd H (by simp)
                                  · replace c52 := Bool.eq_false_iff.mpr c52
                                    subst c52
                                    have H1 : ((bonsailaw04_live.f kj49).bind fun t230 => (some t230)) = some r := by rw [if_neg (show ¬ (false = true) by decide)] at H; exact H
                                    clear H
                                    have H := H1
                                    clear H1
                                    replace H := Option.bind_eq_some_iff.mp H
                                    obtain ⟨t230, A580, H⟩ := H
                                    replace H : (some t230) = some r := H
                                    have A58 := Aside0.mk A580
                                    clear A580
                                    obtain rfl := Option.some.inj H
                                    go_wp2_with (first | ((with_reducible refine gate_callee (f := 24) rfl ?_); refine goesL_ (some 112) rfl rfl Try.func24 (by kernel_rfl) rfl #[] rfl (by (try simp only [List.map_toArray, List.map_cons, List.map_nil]); first | done | rfl | (simp only [List.length_drop, List.length_take]; rfl)) ?_; (with_reducible refine (bonsailaw04_live.calls kj49  t230 _ A58.out).mono ?_); rintro e w59 ⟨rfl, hb⟩; refine ⟨_, rfl, ?_⟩; have n0_ := Aside0.mk (below_step (by repeat (first | (with_reducible first | exact HB.out | apply below_alloc | apply pw_below_drewN | apply below_drew1) | exact HB.out)) hb); clear HB; have HB := n0_; clear n0_; (try clear hb); (try clear hb2); (try clear hk); (try clear hi)))
                                    go_ret
                                    exact ⟨by first | rfl | (simp [errW_none, errW_some] <;> rfl) | (simp [*, errW_none, errW_some] <;> rfl), by repeat (first | (with_reducible first | exact HB.out | apply below_alloc | apply pw_below_drewN | apply below_drew1) | exact HB.out)⟩

/-- THE ONE PURE STATEMENT of bonsailaw04_WordParts: yours. -/
def bonsailaw04_WordParts.Pure : Prop := ∀ (a0 : ByteArray) (a1 : ByteArray) (a2 : Int), a0.size ≤ 140737488351232 → a1.size ≤ 140737488351232 → (Lit.int .i64 a2).wf = true → ∃ k, bonsailaw04_WordParts.f k a0 a1 a2 = some true
theorem bonsailaw04_WordParts.walk (P : bonsailaw04_WordParts.Pure) (a0 : ByteArray) (a1 : ByteArray) (a2 : Int) (w : World) (w0 : a0.size ≤ 140737488351232) (w1 : a1.size ≤ 140737488351232) (w2 : (Lit.int .i64 a2).wf = true) :
    Calls Try.prog 6 #[.string a0, .string a1, .int .i64 a2] w fun e w' => e = .returned (.bool true) ∧ Below w.heap.size w w' := by
  obtain ⟨k, h⟩ := P a0 a1 a2 w0 w1 w2
  refine (bonsailaw04_WordParts.calls k a0 a1 a2 true w h).mono ?_
  rintro e w' ⟨rfl, hd⟩
  exact ⟨rfl, hd⟩

end Go.Proofs.Ytbgjoiccehiglaa.Print
