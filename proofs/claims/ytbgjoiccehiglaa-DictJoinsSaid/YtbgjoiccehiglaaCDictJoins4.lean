/- Part 4 of what DictJoins stands on: merged by a program of this session out of its texts. -/
import Derived.Test.YtbgjoiccehiglaaCDictJoins3
section
namespace Go.Proofs.Ytbgjoiccehiglaa.Print
open Go.RowKit Go.Proofs.YtbgjoiccehiglaaW.PrintWords Go.Proofs.YtbgjoiccehiglaaW.PrintLast Go.Proofs.YtbgjoiccehiglaaW.PrintMore
attribute [local go_sem] max2_int min2_int max_two min_two max_three min_three max_four min_four
set_option linter.unusedVariables false
set_option linter.unusedSimpArgs false
mutual
def bonsailaw08_DictJoins.j0 : Nat → List ByteArray → List ByteArray → Bool → Option (Bool)
  | 0, _, _, _ => none
  | k + 1, x0, x1, x23 => if x23 = true then ((bonsailaw08_live.f k).bind fun t1018 => (some t1018)) else ((some (([] : List ByteArray) : List ByteArray)).bind fun y1019 => (if y1019.length + x0.length < 8796093022208 then ((some (y1019 ++ x0 : List ByteArray)).bind fun y1022 => (if y1022.length + x1.length < 8796093022208 then ((some (y1022 ++ x1 : List ByteArray)).bind fun y1025 => ((dict_Words.f x0).bind fun bt1028 => ((dict_Words.f y1025).bind fun bt1034 => (if (bt1034.1.length : Int) < (bt1028.1.length : Int) then (bonsailaw08_DictJoins.j1 k x0 x1 y1025 bt1028.1 bt1034.1 bt1034.2 true) else (if (bt1034.2.length : Int) = (y1025.length : Int) then (if 0 ≤ (bt1028.1.length : Int) then (if (bt1028.1.length : Int) ≤ (bt1034.1.length : Int) then ((bonsairef04_Same.f k (bt1034.1.take ((bt1028.1.length : Int) : Int).toNat) bt1028.1).bind fun t1044 => (if t1044 = true then (if 0 ≤ (x0.length : Int) then (if (x0.length : Int) ≤ (bt1034.2.length : Int) then ((bonsairef06_Same.f k (bt1034.2.take x0.length) bt1028.2).bind fun t1049 => (bonsailaw08_DictJoins.j1 k x0 x1 y1025 bt1028.1 bt1034.1 bt1034.2 (!t1049))) else (none)) else (none)) else (bonsailaw08_DictJoins.j1 k x0 x1 y1025 bt1028.1 bt1034.1 bt1034.2 true))) else (none)) else (none)) else (bonsailaw08_DictJoins.j1 k x0 x1 y1025 bt1028.1 bt1034.1 bt1034.2 true)))))) else (none))) else (none)))
def bonsailaw08_DictJoins.j1 : Nat → List ByteArray → List ByteArray → List ByteArray → List ByteArray → List ByteArray → List Int → Bool → Option (Bool)
  | 0, _, _, _, _, _, _, _ => none
  | k + 1, x0, x1, x5, x6, x8, x9, x69 => if x69 = true then (none) else ((dict_Pick.f x8 x9).bind fun bt1050 => (if bt1050.2 = true then ((bonsairef04_Same.f k bt1050.1 x5).bind fun t1054 => (bonsailaw08_DictJoins.j2 k x0 x1 x6 x8 (!t1054))) else (bonsailaw08_DictJoins.j2 k x0 x1 x6 x8 true)))
def bonsailaw08_DictJoins.j2 : Nat → List ByteArray → List ByteArray → List ByteArray → List ByteArray → Bool → Option (Bool)
  | 0, _, _, _, _, _ => none
  | k + 1, x0, x1, x6, x8, x83 => if x83 = true then (none) else (bonsailaw08_DictJoins.l0 k x0 x1 x8 (x6.length : Int))
def bonsailaw08_DictJoins.l0 : Nat → List ByteArray → List ByteArray → List ByteArray → Int → Option (Bool)
  | 0, _, _, _, _ => none
  | k + 1, x0, x1, x8, x12 => if x12 < (x8.length : Int) then (bonsailaw08_DictJoins.l1 k x0 x1 x8 x12 false 0) else ((bonsailaw08_live.f k).bind fun t1055 => (some t1055))
def bonsailaw08_DictJoins.l1 : Nat → List ByteArray → List ByteArray → List ByteArray → Int → Bool → Int → Option (Bool)
  | 0, _, _, _, _, _, _ => none
  | k + 1, x0, x1, x8, x12, x13, x14 => if x14 < (x1.length : Int) then (if x13 = true then (bonsailaw08_DictJoins.l1 k x0 x1 x8 x12 true (wrap64 (x14 + 1))) else (if 0 ≤ x14 then (if 0 ≤ x12 then (if x12 < (x8.length : Int) then (bonsailaw08_DictJoins.l1 k x0 x1 x8 x12 ((rdOf ByteArray.empty x1 x14).toList == (rdOf ByteArray.empty x8 x12).toList) (wrap64 (x14 + 1))) else (none)) else (none)) else (none))) else (bonsailaw08_DictJoins.l2 k x0 x1 x8 x12 x13 0)
def bonsailaw08_DictJoins.l2 : Nat → List ByteArray → List ByteArray → List ByteArray → Int → Bool → Int → Option (Bool)
  | 0, _, _, _, _, _, _ => none
  | k + 1, x0, x1, x8, x12, x13, x15 => if x15 < (x0.length : Int) then (if x13 = true then (if 0 ≤ x15 then (if 0 ≤ x12 then (if x12 < (x8.length : Int) then (bonsailaw08_DictJoins.l2 k x0 x1 x8 x12 ((rdOf ByteArray.empty x0 x15).toList != (rdOf ByteArray.empty x8 x12).toList) (wrap64 (x15 + 1))) else (none)) else (none)) else (none)) else (bonsailaw08_DictJoins.l2 k x0 x1 x8 x12 false (wrap64 (x15 + 1)))) else (if x13 = true then (bonsailaw08_DictJoins.l0 k x0 x1 x8 (wrap64 (x12 + 1))) else (none))
end
def bonsailaw08_DictJoins.f (k : Nat) (l0 : List ByteArray) (l1 : List ByteArray) : Option (Bool) := (bonsairef04_Few.f k l0 40 60).bind fun t1016 => (if t1016 = true then ((bonsairef04_Few.f k l1 40 60).bind fun t1017 => (bonsailaw08_DictJoins.j0 k l0 l1 (!t1017))) else (bonsailaw08_DictJoins.j0 k l0 l1 true))
set_option maxHeartbeats 8000000 in
set_option maxRecDepth 100000 in
theorem bonsailaw08_DictJoins.calls (k : Nat) (A0 : Option Addr) (c0 : Nat) (l0 : List ByteArray) (A1 : Option Addr) (c1 : Nat) (l1 : List ByteArray) (r : Bool) (w : World) (hr0 : Kd.C Kd.string w A0 l0.length l0) (hc0 : l0.length ≤ c0) (hr1 : Kd.C Kd.string w A1 l1.length l1) (hc1 : l1.length ≤ c1) (h : bonsailaw08_DictJoins.f k l0 l1 = some r) :
    Calls Try.prog 23 #[.slice A0 l0.length c0, .slice A1 l1.length c1] w fun e w' => e = .returned (.bool r) ∧ Below w.heap.size w w' := by
  have HR0 := Aside0.mk hr0
  have HC0 := Aside0.mk hc0
  clear hr0 hc0
  have HR1 := Aside0.mk hr1
  have HC1 := Aside0.mk hc1
  clear hr1 hc1
  have HB := Aside0.mk (Below.refl w.heap.size w)
  have H : ((bonsairef04_Few.f k l0 40 60).bind fun t1016 => (if t1016 = true then ((bonsairef04_Few.f k l1 40 60).bind fun t1017 => (bonsailaw08_DictJoins.j0 k l0 l1 (!t1017))) else (bonsailaw08_DictJoins.j0 k l0 l1 true))) = some r := h
  clear h
  have HC3 := Aside0.mk H
  clear H
  go_enter Try.func23, Try.ntmps23
  go_upto_region 1 with (fail)
  repeat (go_quiet (fail); go_upto_region 1 with (fail))
  go_cut [23] (fun v23 wc => ∃ (kq : Nat) (x23_2 : Bool), v23 = .bool x23_2 ∧ Aside0 (bonsailaw08_DictJoins.j0 kq l0 l1 x23_2 = some r) ∧ Aside0 (kq ≤ k) ∧ Aside0 (Below w.heap.size w wc))
  case first =>
    have H := HC3.out
    clear HC3
    replace H := Option.bind_eq_some_iff.mp H
    obtain ⟨t1016, A40, H⟩ := H
    replace H : (if t1016 = true then ((bonsairef04_Few.f k l1 40 60).bind fun t1017 => (bonsailaw08_DictJoins.j0 k l0 l1 (!t1017))) else (bonsailaw08_DictJoins.j0 k l0 l1 true)) = some r := H
    have A4 := Aside0.mk A40
    clear A40
    by_cases c5 : t1016 = true
    · subst c5
      have H1 : ((bonsairef04_Few.f k l1 40 60).bind fun t1017 => (bonsailaw08_DictJoins.j0 k l0 l1 (!t1017))) = some r := by rw [if_pos rfl] at H; exact H
      clear H
      have H := H1
      clear H1
      replace H := Option.bind_eq_some_iff.mp H
      obtain ⟨t1017, A60, H⟩ := H
      replace H : (bonsailaw08_DictJoins.j0 k l0 l1 (!t1017)) = some r := H
      have A6 := Aside0.mk A60
      clear A60
      have H' := Aside0.mk H
      clear H
      go_wp2_with (first | (go_at_call 37; (with_reducible refine (bonsairef04_Few.calls k _ _ l0 40 60 true _ ?side1 ?side2 A4.out).mono ?_); (case side1 => repeat (first | exact (Kd.C_below HR0.out HB.out) | (with_reducible refine Kd.C_alloc ?_ _) | (with_reducible refine Kd.C_drewN ?_ _) | (with_reducible refine Kd.C_drew ?_))); (case side2 => exact HC0.out); rintro e w' ⟨rfl, ⟨nd, rfl⟩⟩; (try first | exact ⟨rfl, _, World.drewN_drewN _ _ _⟩ | exact ⟨rfl, _, Eq.trans (World.drewN_drewN _ _ _) (congrArg (World.drewN _) (Nat.add_assoc _ _ _))⟩)) | (go_at_call 37; (with_reducible refine (bonsairef04_Few.calls k _ _ l1 40 60 t1017 _ ?side1 ?side2 A6.out).mono ?_); (case side1 => repeat (first | exact (Kd.C_below HR1.out (by repeat (first | (with_reducible first | exact HB.out | apply below_alloc | apply pw_below_drewN | apply below_drew1) | exact HB.out))) | (with_reducible refine Kd.C_alloc ?_ _) | (with_reducible refine Kd.C_drewN ?_ _) | (with_reducible refine Kd.C_drew ?_))); (case side2 => exact HC1.out); rintro e w' ⟨rfl, ⟨nd, rfl⟩⟩; (try first | exact ⟨rfl, _, World.drewN_drewN _ _ _⟩ | exact ⟨rfl, _, Eq.trans (World.drewN_drewN _ _ _) (congrArg (World.drewN _) (Nat.add_assoc _ _ _))⟩)))
      repeat (go_quiet (first | (go_at_call 37; (with_reducible refine (bonsairef04_Few.calls k _ _ l0 40 60 true _ ?side1 ?side2 A4.out).mono ?_); (case side1 => repeat (first | exact (Kd.C_below HR0.out HB.out) | (with_reducible refine Kd.C_alloc ?_ _) | (with_reducible refine Kd.C_drewN ?_ _) | (with_reducible refine Kd.C_drew ?_))); (case side2 => exact HC0.out); rintro e w' ⟨rfl, ⟨nd, rfl⟩⟩; (try first | exact ⟨rfl, _, World.drewN_drewN _ _ _⟩ | exact ⟨rfl, _, Eq.trans (World.drewN_drewN _ _ _) (congrArg (World.drewN _) (Nat.add_assoc _ _ _))⟩)) | (go_at_call 37; (with_reducible refine (bonsairef04_Few.calls k _ _ l1 40 60 t1017 _ ?side1 ?side2 A6.out).mono ?_); (case side1 => repeat (first | exact (Kd.C_below HR1.out (by repeat (first | (with_reducible first | exact HB.out | apply below_alloc | apply pw_below_drewN | apply below_drew1) | exact HB.out))) | (with_reducible refine Kd.C_alloc ?_ _) | (with_reducible refine Kd.C_drewN ?_ _) | (with_reducible refine Kd.C_drew ?_))); (case side2 => exact HC1.out); rintro e w' ⟨rfl, ⟨nd, rfl⟩⟩; (try first | exact ⟨rfl, _, World.drewN_drewN _ _ _⟩ | exact ⟨rfl, _, Eq.trans (World.drewN_drewN _ _ _) (congrArg (World.drewN _) (Nat.add_assoc _ _ _))⟩))); try go_wp2_with (first | (go_at_call 37; (with_reducible refine (bonsairef04_Few.calls k _ _ l0 40 60 true _ ?side1 ?side2 A4.out).mono ?_); (case side1 => repeat (first | exact (Kd.C_below HR0.out HB.out) | (with_reducible refine Kd.C_alloc ?_ _) | (with_reducible refine Kd.C_drewN ?_ _) | (with_reducible refine Kd.C_drew ?_))); (case side2 => exact HC0.out); rintro e w' ⟨rfl, ⟨nd, rfl⟩⟩; (try first | exact ⟨rfl, _, World.drewN_drewN _ _ _⟩ | exact ⟨rfl, _, Eq.trans (World.drewN_drewN _ _ _) (congrArg (World.drewN _) (Nat.add_assoc _ _ _))⟩)) | (go_at_call 37; (with_reducible refine (bonsairef04_Few.calls k _ _ l1 40 60 t1017 _ ?side1 ?side2 A6.out).mono ?_); (case side1 => repeat (first | exact (Kd.C_below HR1.out (by repeat (first | (with_reducible first | exact HB.out | apply below_alloc | apply pw_below_drewN | apply below_drew1) | exact HB.out))) | (with_reducible refine Kd.C_alloc ?_ _) | (with_reducible refine Kd.C_drewN ?_ _) | (with_reducible refine Kd.C_drew ?_))); (case side2 => exact HC1.out); rintro e w' ⟨rfl, ⟨nd, rfl⟩⟩; (try first | exact ⟨rfl, _, World.drewN_drewN _ _ _⟩ | exact ⟨rfl, _, Eq.trans (World.drewN_drewN _ _ _) (congrArg (World.drewN _) (Nat.add_assoc _ _ _))⟩))))
      go_meet
      case rel => exact ⟨_, (!t1017), (by first | rfl | (simp; done) | (simp [*]; done)), H', ⟨by first | omega | exact Nat.le_refl _⟩, ⟨by repeat (first | (with_reducible first | exact HB.out | apply below_alloc | apply pw_below_drewN | apply below_drew1) | exact HB.out)⟩⟩
    · replace c5 := Bool.eq_false_iff.mpr c5
      subst c5
      have H1 : (bonsailaw08_DictJoins.j0 k l0 l1 true) = some r := by rw [if_neg (show ¬ (false = true) by decide)] at H; exact H
      clear H
      have H := H1
      clear H1
      have H' := Aside0.mk H
      clear H
      go_wp2_with (first | (go_at_call 37; (with_reducible refine (bonsairef04_Few.calls k _ _ l0 40 60 false _ ?side1 ?side2 A4.out).mono ?_); (case side1 => repeat (first | exact (Kd.C_below HR0.out HB.out) | (with_reducible refine Kd.C_alloc ?_ _) | (with_reducible refine Kd.C_drewN ?_ _) | (with_reducible refine Kd.C_drew ?_))); (case side2 => exact HC0.out); rintro e w' ⟨rfl, ⟨nd, rfl⟩⟩; (try first | exact ⟨rfl, _, World.drewN_drewN _ _ _⟩ | exact ⟨rfl, _, Eq.trans (World.drewN_drewN _ _ _) (congrArg (World.drewN _) (Nat.add_assoc _ _ _))⟩)))
      repeat (go_quiet (first | (go_at_call 37; (with_reducible refine (bonsairef04_Few.calls k _ _ l0 40 60 false _ ?side1 ?side2 A4.out).mono ?_); (case side1 => repeat (first | exact (Kd.C_below HR0.out HB.out) | (with_reducible refine Kd.C_alloc ?_ _) | (with_reducible refine Kd.C_drewN ?_ _) | (with_reducible refine Kd.C_drew ?_))); (case side2 => exact HC0.out); rintro e w' ⟨rfl, ⟨nd, rfl⟩⟩; (try first | exact ⟨rfl, _, World.drewN_drewN _ _ _⟩ | exact ⟨rfl, _, Eq.trans (World.drewN_drewN _ _ _) (congrArg (World.drewN _) (Nat.add_assoc _ _ _))⟩))); try go_wp2_with (first | (go_at_call 37; (with_reducible refine (bonsairef04_Few.calls k _ _ l0 40 60 false _ ?side1 ?side2 A4.out).mono ?_); (case side1 => repeat (first | exact (Kd.C_below HR0.out HB.out) | (with_reducible refine Kd.C_alloc ?_ _) | (with_reducible refine Kd.C_drewN ?_ _) | (with_reducible refine Kd.C_drew ?_))); (case side2 => exact HC0.out); rintro e w' ⟨rfl, ⟨nd, rfl⟩⟩; (try first | exact ⟨rfl, _, World.drewN_drewN _ _ _⟩ | exact ⟨rfl, _, Eq.trans (World.drewN_drewN _ _ _) (congrArg (World.drewN _) (Nat.add_assoc _ _ _))⟩))))
      go_meet
      case rel => exact ⟨_, (true), (by first | rfl | (simp; done) | (simp [*]; done)), H', ⟨by first | omega | exact Nat.le_refl _⟩, ⟨by repeat (first | (with_reducible first | exact HB.out | apply below_alloc | apply pw_below_drewN | apply below_drew1) | exact HB.out)⟩⟩
  case rest =>
    clear HC3
    try clear c1
    try clear c2
    try clear p2
    try clear c5
    obtain ⟨kq, x23_2, rfl, HA, HJ2, HB⟩ := hcut
    cases kq with
    | zero => exact absurd HA.out (by simp [bonsailaw08_DictJoins.j0])
    | succ kj2 =>
      have H := HA.out
      clear HA
      simp only [bonsailaw08_DictJoins.j0] at H
      by_cases c7 : x23_2 = true
      · subst c7
        have H1 : ((bonsailaw08_live.f kj2).bind fun t1018 => (some t1018)) = some r := by rw [if_pos rfl] at H; exact H
        clear H
        have H := H1
        clear H1
        replace H := Option.bind_eq_some_iff.mp H
        obtain ⟨t1018, A80, H⟩ := H
        replace H : (some t1018) = some r := H
        have A8 := Aside0.mk A80
        clear A80
        obtain rfl := Option.some.inj H
        go_wp2_with (first | (go_at_call 64; (with_reducible refine (bonsailaw08_live.calls kj2  t1018 _ A8.out).mono ?_); rintro e w9 ⟨rfl, hb⟩; have n0_ := Aside0.mk (below_step (by repeat (first | (with_reducible first | exact HB.out | apply below_alloc | apply pw_below_drewN | apply below_drew1) | exact HB.out)) hb); clear HB; have HB := n0_; clear n0_; (try clear hb); (try clear hb2); (try clear hk); (try clear hi)))
        repeat (go_quiet (first | (go_at_call 64; (with_reducible refine (bonsailaw08_live.calls kj2  t1018 _ A8.out).mono ?_); rintro e w9 ⟨rfl, hb⟩; have n0_ := Aside0.mk (below_step (by repeat (first | (with_reducible first | exact HB.out | apply below_alloc | apply pw_below_drewN | apply below_drew1) | exact HB.out)) hb); clear HB; have HB := n0_; clear n0_; (try clear hb); (try clear hb2); (try clear hk); (try clear hi))); try go_wp2_with (first | (go_at_call 64; (with_reducible refine (bonsailaw08_live.calls kj2  t1018 _ A8.out).mono ?_); rintro e w9 ⟨rfl, hb⟩; have n0_ := Aside0.mk (below_step (by repeat (first | (with_reducible first | exact HB.out | apply below_alloc | apply pw_below_drewN | apply below_drew1) | exact HB.out)) hb); clear HB; have HB := n0_; clear n0_; (try clear hb); (try clear hb2); (try clear hk); (try clear hi))))
        go_ret
        exact ⟨by first | rfl | (simp [errW_none, errW_some] <;> rfl) | (simp [*, errW_none, errW_some] <;> rfl), by repeat (first | (with_reducible first | exact HB.out | apply below_alloc | apply pw_below_drewN | apply below_drew1) | exact HB.out)⟩
      · replace c7 := Bool.eq_false_iff.mpr c7
        subst c7
        have H1 : ((some (([] : List ByteArray) : List ByteArray)).bind fun y1019 => (if y1019.length + l0.length < 8796093022208 then ((some (y1019 ++ l0 : List ByteArray)).bind fun y1022 => (if y1022.length + l1.length < 8796093022208 then ((some (y1022 ++ l1 : List ByteArray)).bind fun y1025 => ((dict_Words.f l0).bind fun bt1028 => ((dict_Words.f y1025).bind fun bt1034 => (if (bt1034.1.length : Int) < (bt1028.1.length : Int) then (bonsailaw08_DictJoins.j1 kj2 l0 l1 y1025 bt1028.1 bt1034.1 bt1034.2 true) else (if (bt1034.2.length : Int) = (y1025.length : Int) then (if 0 ≤ (bt1028.1.length : Int) then (if (bt1028.1.length : Int) ≤ (bt1034.1.length : Int) then ((bonsairef04_Same.f kj2 (bt1034.1.take ((bt1028.1.length : Int) : Int).toNat) bt1028.1).bind fun t1044 => (if t1044 = true then (if 0 ≤ (l0.length : Int) then (if (l0.length : Int) ≤ (bt1034.2.length : Int) then ((bonsairef06_Same.f kj2 (bt1034.2.take l0.length) bt1028.2).bind fun t1049 => (bonsailaw08_DictJoins.j1 kj2 l0 l1 y1025 bt1028.1 bt1034.1 bt1034.2 (!t1049))) else (none)) else (none)) else (bonsailaw08_DictJoins.j1 kj2 l0 l1 y1025 bt1028.1 bt1034.1 bt1034.2 true))) else (none)) else (none)) else (bonsailaw08_DictJoins.j1 kj2 l0 l1 y1025 bt1028.1 bt1034.1 bt1034.2 true)))))) else (none))) else (none))) = some r := by rw [if_neg (show ¬ (false = true) by decide)] at H; exact H
        clear H
        have H := H1
        clear H1
        obtain ⟨y1019, hy1019⟩ : ∃ y_ : List ByteArray, y_ = (([] : List ByteArray)) := ⟨_, rfl⟩
        replace H : (if y1019.length + l0.length < 8796093022208 then ((some (y1019 ++ l0 : List ByteArray)).bind fun y1022 => (if y1022.length + l1.length < 8796093022208 then ((some (y1022 ++ l1 : List ByteArray)).bind fun y1025 => ((dict_Words.f l0).bind fun bt1028 => ((dict_Words.f y1025).bind fun bt1034 => (if (bt1034.1.length : Int) < (bt1028.1.length : Int) then (bonsailaw08_DictJoins.j1 kj2 l0 l1 y1025 bt1028.1 bt1034.1 bt1034.2 true) else (if (bt1034.2.length : Int) = (y1025.length : Int) then (if 0 ≤ (bt1028.1.length : Int) then (if (bt1028.1.length : Int) ≤ (bt1034.1.length : Int) then ((bonsairef04_Same.f kj2 (bt1034.1.take ((bt1028.1.length : Int) : Int).toNat) bt1028.1).bind fun t1044 => (if t1044 = true then (if 0 ≤ (l0.length : Int) then (if (l0.length : Int) ≤ (bt1034.2.length : Int) then ((bonsairef06_Same.f kj2 (bt1034.2.take l0.length) bt1028.2).bind fun t1049 => (bonsailaw08_DictJoins.j1 kj2 l0 l1 y1025 bt1028.1 bt1034.1 bt1034.2 (!t1049))) else (none)) else (none)) else (bonsailaw08_DictJoins.j1 kj2 l0 l1 y1025 bt1028.1 bt1034.1 bt1034.2 true))) else (none)) else (none)) else (bonsailaw08_DictJoins.j1 kj2 l0 l1 y1025 bt1028.1 bt1034.1 bt1034.2 true)))))) else (none))) else (none)) = some r := by first | (rw [hy1019]; with_reducible exact H) | (have H2_ := (Option.bind_some _ _).symm.trans H; rw [hy1019]; with_reducible exact H2_) | (have H2_ := (Option.bind_some _ _).symm.trans H; with_reducible exact H2_) | with_reducible exact H | (rw [hy1019]; exact H) | exact H
        have Ny1019 := Aside0.mk hy1019
        clear hy1019
        by_cases c10 : y1019.length + l0.length < 8796093022208
        · rw [if_pos c10] at H
          have LMc10 := Aside0.mk c10
          clear c10
          obtain ⟨y1022, hy1022⟩ : ∃ y_ : List ByteArray, y_ = (y1019 ++ l0) := ⟨_, rfl⟩
          replace H : (if y1022.length + l1.length < 8796093022208 then ((some (y1022 ++ l1 : List ByteArray)).bind fun y1025 => ((dict_Words.f l0).bind fun bt1028 => ((dict_Words.f y1025).bind fun bt1034 => (if (bt1034.1.length : Int) < (bt1028.1.length : Int) then (bonsailaw08_DictJoins.j1 kj2 l0 l1 y1025 bt1028.1 bt1034.1 bt1034.2 true) else (if (bt1034.2.length : Int) = (y1025.length : Int) then (if 0 ≤ (bt1028.1.length : Int) then (if (bt1028.1.length : Int) ≤ (bt1034.1.length : Int) then ((bonsairef04_Same.f kj2 (bt1034.1.take ((bt1028.1.length : Int) : Int).toNat) bt1028.1).bind fun t1044 => (if t1044 = true then (if 0 ≤ (l0.length : Int) then (if (l0.length : Int) ≤ (bt1034.2.length : Int) then ((bonsairef06_Same.f kj2 (bt1034.2.take l0.length) bt1028.2).bind fun t1049 => (bonsailaw08_DictJoins.j1 kj2 l0 l1 y1025 bt1028.1 bt1034.1 bt1034.2 (!t1049))) else (none)) else (none)) else (bonsailaw08_DictJoins.j1 kj2 l0 l1 y1025 bt1028.1 bt1034.1 bt1034.2 true))) else (none)) else (none)) else (bonsailaw08_DictJoins.j1 kj2 l0 l1 y1025 bt1028.1 bt1034.1 bt1034.2 true)))))) else (none)) = some r := by first | (rw [hy1022]; with_reducible exact H) | (have H2_ := (Option.bind_some _ _).symm.trans H; rw [hy1022]; with_reducible exact H2_) | (have H2_ := (Option.bind_some _ _).symm.trans H; with_reducible exact H2_) | with_reducible exact H | (rw [hy1022]; exact H) | exact H
          have Ny1022 := Aside0.mk hy1022
          clear hy1022
          by_cases c11 : y1022.length + l1.length < 8796093022208
          · rw [if_pos c11] at H
            have LMc11 := Aside0.mk c11
            clear c11
            obtain ⟨y1025, hy1025⟩ : ∃ y_ : List ByteArray, y_ = (y1022 ++ l1) := ⟨_, rfl⟩
            replace H : ((dict_Words.f l0).bind fun bt1028 => ((dict_Words.f y1025).bind fun bt1034 => (if (bt1034.1.length : Int) < (bt1028.1.length : Int) then (bonsailaw08_DictJoins.j1 kj2 l0 l1 y1025 bt1028.1 bt1034.1 bt1034.2 true) else (if (bt1034.2.length : Int) = (y1025.length : Int) then (if 0 ≤ (bt1028.1.length : Int) then (if (bt1028.1.length : Int) ≤ (bt1034.1.length : Int) then ((bonsairef04_Same.f kj2 (bt1034.1.take ((bt1028.1.length : Int) : Int).toNat) bt1028.1).bind fun t1044 => (if t1044 = true then (if 0 ≤ (l0.length : Int) then (if (l0.length : Int) ≤ (bt1034.2.length : Int) then ((bonsairef06_Same.f kj2 (bt1034.2.take l0.length) bt1028.2).bind fun t1049 => (bonsailaw08_DictJoins.j1 kj2 l0 l1 y1025 bt1028.1 bt1034.1 bt1034.2 (!t1049))) else (none)) else (none)) else (bonsailaw08_DictJoins.j1 kj2 l0 l1 y1025 bt1028.1 bt1034.1 bt1034.2 true))) else (none)) else (none)) else (bonsailaw08_DictJoins.j1 kj2 l0 l1 y1025 bt1028.1 bt1034.1 bt1034.2 true))))) = some r := by first | (rw [hy1025]; with_reducible exact H) | (have H2_ := (Option.bind_some _ _).symm.trans H; rw [hy1025]; with_reducible exact H2_) | (have H2_ := (Option.bind_some _ _).symm.trans H; with_reducible exact H2_) | with_reducible exact H | (rw [hy1025]; exact H) | exact H
            have Ny1025 := Aside0.mk hy1025
            clear hy1025
            replace H := Option.bind_eq_some_iff.mp H
            obtain ⟨⟨t1028, t1029⟩, A120, H⟩ := H
            replace H : ((dict_Words.f y1025).bind fun bt1034 => (if (bt1034.1.length : Int) < (t1028.length : Int) then (bonsailaw08_DictJoins.j1 kj2 l0 l1 y1025 t1028 bt1034.1 bt1034.2 true) else (if (bt1034.2.length : Int) = (y1025.length : Int) then (if 0 ≤ (t1028.length : Int) then (if (t1028.length : Int) ≤ (bt1034.1.length : Int) then ((bonsairef04_Same.f kj2 (bt1034.1.take t1028.length) t1028).bind fun t1044 => (if t1044 = true then (if 0 ≤ (l0.length : Int) then (if (l0.length : Int) ≤ (bt1034.2.length : Int) then ((bonsairef06_Same.f kj2 (bt1034.2.take l0.length) t1029).bind fun t1049 => (bonsailaw08_DictJoins.j1 kj2 l0 l1 y1025 t1028 bt1034.1 bt1034.2 (!t1049))) else (none)) else (none)) else (bonsailaw08_DictJoins.j1 kj2 l0 l1 y1025 t1028 bt1034.1 bt1034.2 true))) else (none)) else (none)) else (bonsailaw08_DictJoins.j1 kj2 l0 l1 y1025 t1028 bt1034.1 bt1034.2 true)))) = some r := H
            have A12 := Aside0.mk A120
            clear A120
            replace H := Option.bind_eq_some_iff.mp H
            obtain ⟨⟨t1034, t1035⟩, A130, H⟩ := H
            replace H : (if (t1034.length : Int) < (t1028.length : Int) then (bonsailaw08_DictJoins.j1 kj2 l0 l1 y1025 t1028 t1034 t1035 true) else (if (t1035.length : Int) = (y1025.length : Int) then (if 0 ≤ (t1028.length : Int) then (if (t1028.length : Int) ≤ (t1034.length : Int) then ((bonsairef04_Same.f kj2 (t1034.take t1028.length) t1028).bind fun t1044 => (if t1044 = true then (if 0 ≤ (l0.length : Int) then (if (l0.length : Int) ≤ (t1035.length : Int) then ((bonsairef06_Same.f kj2 (t1035.take l0.length) t1029).bind fun t1049 => (bonsailaw08_DictJoins.j1 kj2 l0 l1 y1025 t1028 t1034 t1035 (!t1049))) else (none)) else (none)) else (bonsailaw08_DictJoins.j1 kj2 l0 l1 y1025 t1028 t1034 t1035 true))) else (none)) else (none)) else (bonsailaw08_DictJoins.j1 kj2 l0 l1 y1025 t1028 t1034 t1035 true))) = some r := H
            have A13 := Aside0.mk A130
            clear A130
            have HC14 := Aside0.mk H
            clear H
            go_upto_region 6 with (first | ((with_reducible refine gate_dst (N := 25) rfl ?_); (try (refine gate_guard (by rfl) ?_; dsimp only)); refine Kd.R_lit Kd.string _ 9 ?hg (N := 25) ?hd (xs := ([] : List ByteArray)) (inner := []) (ok := fun _ => True) (okp := fun _ => True) ?hr ?hp (fun _ hk => hk) trivial (Below.refl _ _) (Nat.le_refl _) (by simp) ?_; (case hd => rfl); (case hg => rfl); (case hr => first | (go_simp; done) | (go_simp; rfl)); (case hp => exact (Reps.none _ _)); intro v1020 w15 ho16 hb hg_ hnew_; clear hg_ hnew_; (first | rw [← Ny1019.out] at ho16 | (simp only [Int.reduceToNat] at ho16; rw [← Ny1019.out] at ho16)); have n0_ := Aside0.mk (Kd.R_lower ho16 (below_size (by repeat (first | (with_reducible first | exact HB.out | apply below_alloc | apply pw_below_drewN | apply below_drew1) | exact HB.out)))); have n1_ := Aside0.mk (below_step (by repeat (first | (with_reducible first | exact HB.out | apply below_alloc | apply pw_below_drewN | apply below_drew1) | exact HB.out)) hb); clear HB; have HO1021 := n0_; have HB := n1_; clear n0_ n1_; clear hb ho16) | ((with_reducible refine gate_builtin (b := .append) (xs := #[.tmp 25, .tmp 26]) rfl ?_); (try (refine gate_guard (by rfl) ?_; dsimp only)); at_builtin; refine Kd.R_append_rows Kd.string (w0 := w) w.heap.size rfl (.tmp 25) (.tmp 26) 35 9 (.string ⟨#[]⟩) 16 rfl Try.underlying35 info9 rfl (by decide) (by omega) v1020 y1019 l0 _ _ _ (fun _ => True) (fun _ => False) rfl rfl ?aO ?aR (fun _ _ h => h) (fun _ h => h.elim) ?aF ?aB ?aS ?aL ?_; (case aR => repeat (first | exact (Kd.C_below HR0.out HB.out) | (with_reducible refine Kd.C_alloc ?_ _) | (with_reducible refine Kd.C_drewN ?_ _) | (with_reducible refine Kd.C_drew ?_))); (case aB => exact (by repeat (first | (with_reducible first | exact HB.out | apply below_alloc | apply pw_below_drewN | apply below_drew1) | exact HB.out))); (case aF => exact (fun _ _ => trivial)); (case aO => exact (by (with_reducible repeat (first | apply Kd.R_alloc | apply Kd.R_drewN | apply Kd.R_drew)); exact HO1021.out)); (case aS => exact (below_size (by repeat (first | (with_reducible first | exact HB.out | apply below_alloc | apply pw_below_drewN | apply below_drew1) | exact HB.out)))); (case aL => have := LMc10.out; omega); intro v1023 w17 ho hb hg hat; rw [← Ny1022.out] at ho; have n0_ := Aside0.mk (hb); have n1_ := Aside0.mk (ho); clear HB; clear HO1021; have HB := n0_; have HO1024 := n1_; clear n0_ n1_; clear ho hb hg hat) | ((with_reducible refine gate_builtin (b := .append) (xs := #[.tmp 27, .tmp 28]) rfl ?_); (try (refine gate_guard (by rfl) ?_; dsimp only)); at_builtin; refine Kd.R_append_rows Kd.string (w0 := w) w.heap.size rfl (.tmp 27) (.tmp 28) 35 9 (.string ⟨#[]⟩) 16 rfl Try.underlying35 info9 rfl (by decide) (by omega) v1023 y1022 l1 _ _ _ (fun _ => True) (fun _ => False) rfl rfl ?aO ?aR (fun _ _ h => h) (fun _ h => h.elim) ?aF ?aB ?aS ?aL ?_; (case aR => repeat (first | exact (Kd.C_below HR1.out HB.out) | (with_reducible refine Kd.C_alloc ?_ _) | (with_reducible refine Kd.C_drewN ?_ _) | (with_reducible refine Kd.C_drew ?_))); (case aB => exact (by repeat (first | (with_reducible first | exact HB.out | apply below_alloc | apply pw_below_drewN | apply below_drew1) | exact HB.out))); (case aF => exact (fun _ _ => trivial)); (case aO => exact (by (with_reducible repeat (first | apply Kd.R_alloc | apply Kd.R_drewN | apply Kd.R_drew)); exact HO1024.out)); (case aS => exact (below_size (by repeat (first | (with_reducible first | exact HB.out | apply below_alloc | apply pw_below_drewN | apply below_drew1) | exact HB.out)))); (case aL => have := LMc11.out; omega); intro v1026 w18 ho hb hg hat; rw [← Ny1025.out] at ho; have n0_ := Aside0.mk (hb); have n1_ := Aside0.mk (ho); clear HB; clear HO1024; have HB := n0_; have HO1027 := n1_; clear n0_ n1_; clear ho hb hg hat) | (go_at_call 65; (with_reducible refine (dict_Words.calls _ _ l0 t1028 t1029 _ ?side1 ?side2 A12.out).mono ?_); (case side1 => repeat (first | exact (Kd.C_below HR0.out HB.out) | (with_reducible refine Kd.C_alloc ?_ _) | (with_reducible refine Kd.C_drewN ?_ _) | (with_reducible refine Kd.C_drew ?_))); (case side2 => exact HC0.out); rintro e w19 ⟨v1030, v1032, rfl, ho0, ho1, hb⟩; have n0_ := Aside0.mk (Kd.R_elder' (by (with_reducible repeat (first | apply Kd.R_alloc | apply Kd.R_drewN | apply Kd.R_drew)); exact HO1027.out) (Kd.R_base ho0) hb); have n1_ := Aside0.mk (Kd.R_lower (Kd.R_new' ho0 (Kd.R_lt (by (with_reducible repeat (first | apply Kd.R_alloc | apply Kd.R_drewN | apply Kd.R_drew)); exact HO1027.out))) (below_size (by repeat (first | (with_reducible first | exact HB.out | apply below_alloc | apply pw_below_drewN | apply below_drew1) | exact HB.out)))); have n2_ := Aside0.mk (Kd.R_lower ho1 (below_size (by repeat (first | (with_reducible first | exact HB.out | apply below_alloc | apply pw_below_drewN | apply below_drew1) | exact HB.out)))); have n3_ := Aside0.mk (below_step (by repeat (first | (with_reducible first | exact HB.out | apply below_alloc | apply pw_below_drewN | apply below_drew1) | exact HB.out)) hb); clear HO1027; clear HB; have HO1027 := n0_; have HO1031 := n1_; have HO1033 := n2_; have HB := n3_; clear n0_ n1_ n2_ n3_; (try clear hb); (try clear hb2); (try clear hk); (try clear hi); (try clear ho0); (try clear ho1); obtain ⟨Ao20, co20, eo20⟩ := Kd.R_slice HO1027.out; subst eo20) | (go_at_call 65; (with_reducible refine (dict_Words.calls _ _ y1025 t1034 t1035 _ ?side1 ?side2 A13.out).mono ?_); (case side1 => repeat (first | exact (Kd.R_reads' HO1027.out).2.2 | (with_reducible refine Kd.C_alloc ?_ _) | (with_reducible refine Kd.C_drewN ?_ _) | (with_reducible refine Kd.C_drew ?_))); (case side2 => exact (Kd.R_reads' HO1027.out).2.1); rintro e w21 ⟨v1036, v1038, rfl, ho0, ho1, hb⟩; have n0_ := Aside0.mk (Kd.R_elder' (by (with_reducible repeat (first | apply Kd.R_alloc | apply Kd.R_drewN | apply Kd.R_drew)); exact HO1027.out) (Kd.R_base ho0) hb); have n1_ := Aside0.mk (Kd.R_elder' (by (with_reducible repeat (first | apply Kd.R_alloc | apply Kd.R_drewN | apply Kd.R_drew)); exact HO1031.out) (Kd.R_base ho0) hb); have n2_ := Aside0.mk (Kd.R_elder' (by (with_reducible repeat (first | apply Kd.R_alloc | apply Kd.R_drewN | apply Kd.R_drew)); exact HO1033.out) (Kd.R_base ho1) hb); have n3_ := Aside0.mk (Kd.R_lower (Kd.R_new' (Kd.R_new' ho0 (Kd.R_lt (by (with_reducible repeat (first | apply Kd.R_alloc | apply Kd.R_drewN | apply Kd.R_drew)); exact HO1027.out))) (Kd.R_lt (by (with_reducible repeat (first | apply Kd.R_alloc | apply Kd.R_drewN | apply Kd.R_drew)); exact HO1031.out))) (below_size (by repeat (first | (with_reducible first | exact HB.out | apply below_alloc | apply pw_below_drewN | apply below_drew1) | exact HB.out)))); have n4_ := Aside0.mk (Kd.R_lower (Kd.R_new' ho1 (Kd.R_lt (by (with_reducible repeat (first | apply Kd.R_alloc | apply Kd.R_drewN | apply Kd.R_drew)); exact HO1033.out))) (below_size (by repeat (first | (with_reducible first | exact HB.out | apply below_alloc | apply pw_below_drewN | apply below_drew1) | exact HB.out)))); have n5_ := Aside0.mk (below_step (by repeat (first | (with_reducible first | exact HB.out | apply below_alloc | apply pw_below_drewN | apply below_drew1) | exact HB.out)) hb); clear HO1027; clear HO1031; clear HO1033; clear HB; have HO1027 := n0_; have HO1031 := n1_; have HO1033 := n2_; have HO1037 := n3_; have HO1039 := n4_; have HB := n5_; clear n0_ n1_ n2_ n3_ n4_ n5_; (try clear hb); (try clear hb2); (try clear hk); (try clear hi); (try clear ho0); (try clear ho1)))
            repeat (go_quiet (first | ((with_reducible refine gate_dst (N := 25) rfl ?_); (try (refine gate_guard (by rfl) ?_; dsimp only)); refine Kd.R_lit Kd.string _ 9 ?hg (N := 25) ?hd (xs := ([] : List ByteArray)) (inner := []) (ok := fun _ => True) (okp := fun _ => True) ?hr ?hp (fun _ hk => hk) trivial (Below.refl _ _) (Nat.le_refl _) (by simp) ?_; (case hd => rfl); (case hg => rfl); (case hr => first | (go_simp; done) | (go_simp; rfl)); (case hp => exact (Reps.none _ _)); intro v1020 w15 ho16 hb hg_ hnew_; clear hg_ hnew_; (first | rw [← Ny1019.out] at ho16 | (simp only [Int.reduceToNat] at ho16; rw [← Ny1019.out] at ho16)); have n0_ := Aside0.mk (Kd.R_lower ho16 (below_size (by repeat (first | (with_reducible first | exact HB.out | apply below_alloc | apply pw_below_drewN | apply below_drew1) | exact HB.out)))); have n1_ := Aside0.mk (below_step (by repeat (first | (with_reducible first | exact HB.out | apply below_alloc | apply pw_below_drewN | apply below_drew1) | exact HB.out)) hb); clear HB; have HO1021 := n0_; have HB := n1_; clear n0_ n1_; clear hb ho16) | ((with_reducible refine gate_builtin (b := .append) (xs := #[.tmp 25, .tmp 26]) rfl ?_); (try (refine gate_guard (by rfl) ?_; dsimp only)); at_builtin; refine Kd.R_append_rows Kd.string (w0 := w) w.heap.size rfl (.tmp 25) (.tmp 26) 35 9 (.string ⟨#[]⟩) 16 rfl Try.underlying35 info9 rfl (by decide) (by omega) v1020 y1019 l0 _ _ _ (fun _ => True) (fun _ => False) rfl rfl ?aO ?aR (fun _ _ h => h) (fun _ h => h.elim) ?aF ?aB ?aS ?aL ?_; (case aR => repeat (first | exact (Kd.C_below HR0.out HB.out) | (with_reducible refine Kd.C_alloc ?_ _) | (with_reducible refine Kd.C_drewN ?_ _) | (with_reducible refine Kd.C_drew ?_))); (case aB => exact (by repeat (first | (with_reducible first | exact HB.out | apply below_alloc | apply pw_below_drewN | apply below_drew1) | exact HB.out))); (case aF => exact (fun _ _ => trivial)); (case aO => exact (by (with_reducible repeat (first | apply Kd.R_alloc | apply Kd.R_drewN | apply Kd.R_drew)); exact HO1021.out)); (case aS => exact (below_size (by repeat (first | (with_reducible first | exact HB.out | apply below_alloc | apply pw_below_drewN | apply below_drew1) | exact HB.out)))); (case aL => have := LMc10.out; omega); intro v1023 w17 ho hb hg hat; rw [← Ny1022.out] at ho; have n0_ := Aside0.mk (hb); have n1_ := Aside0.mk (ho); clear HB; clear HO1021; have HB := n0_; have HO1024 := n1_; clear n0_ n1_; clear ho hb hg hat) | ((with_reducible refine gate_builtin (b := .append) (xs := #[.tmp 27, .tmp 28]) rfl ?_); (try (refine gate_guard (by rfl) ?_; dsimp only)); at_builtin; refine Kd.R_append_rows Kd.string (w0 := w) w.heap.size rfl (.tmp 27) (.tmp 28) 35 9 (.string ⟨#[]⟩) 16 rfl Try.underlying35 info9 rfl (by decide) (by omega) v1023 y1022 l1 _ _ _ (fun _ => True) (fun _ => False) rfl rfl ?aO ?aR (fun _ _ h => h) (fun _ h => h.elim) ?aF ?aB ?aS ?aL ?_; (case aR => repeat (first | exact (Kd.C_below HR1.out HB.out) | (with_reducible refine Kd.C_alloc ?_ _) | (with_reducible refine Kd.C_drewN ?_ _) | (with_reducible refine Kd.C_drew ?_))); (case aB => exact (by repeat (first | (with_reducible first | exact HB.out | apply below_alloc | apply pw_below_drewN | apply below_drew1) | exact HB.out))); (case aF => exact (fun _ _ => trivial)); (case aO => exact (by (with_reducible repeat (first | apply Kd.R_alloc | apply Kd.R_drewN | apply Kd.R_drew)); exact HO1024.out)); (case aS => exact (below_size (by repeat (first | (with_reducible first | exact HB.out | apply below_alloc | apply pw_below_drewN | apply below_drew1) | exact HB.out)))); (case aL => have := LMc11.out; omega); intro v1026 w18 ho hb hg hat; rw [← Ny1025.out] at ho; have n0_ := Aside0.mk (hb); have n1_ := Aside0.mk (ho); clear HB; clear HO1024; have HB := n0_; have HO1027 := n1_; clear n0_ n1_; clear ho hb hg hat) | (go_at_call 65; (with_reducible refine (dict_Words.calls _ _ l0 t1028 t1029 _ ?side1 ?side2 A12.out).mono ?_); (case side1 => repeat (first | exact (Kd.C_below HR0.out HB.out) | (with_reducible refine Kd.C_alloc ?_ _) | (with_reducible refine Kd.C_drewN ?_ _) | (with_reducible refine Kd.C_drew ?_))); (case side2 => exact HC0.out); rintro e w19 ⟨v1030, v1032, rfl, ho0, ho1, hb⟩; have n0_ := Aside0.mk (Kd.R_elder' (by (with_reducible repeat (first | apply Kd.R_alloc | apply Kd.R_drewN | apply Kd.R_drew)); exact HO1027.out) (Kd.R_base ho0) hb); have n1_ := Aside0.mk (Kd.R_lower (Kd.R_new' ho0 (Kd.R_lt (by (with_reducible repeat (first | apply Kd.R_alloc | apply Kd.R_drewN | apply Kd.R_drew)); exact HO1027.out))) (below_size (by repeat (first | (with_reducible first | exact HB.out | apply below_alloc | apply pw_below_drewN | apply below_drew1) | exact HB.out)))); have n2_ := Aside0.mk (Kd.R_lower ho1 (below_size (by repeat (first | (with_reducible first | exact HB.out | apply below_alloc | apply pw_below_drewN | apply below_drew1) | exact HB.out)))); have n3_ := Aside0.mk (below_step (by repeat (first | (with_reducible first | exact HB.out | apply below_alloc | apply pw_below_drewN | apply below_drew1) | exact HB.out)) hb); clear HO1027; clear HB; have HO1027 := n0_; have HO1031 := n1_; have HO1033 := n2_; have HB := n3_; clear n0_ n1_ n2_ n3_; (try clear hb); (try clear hb2); (try clear hk); (try clear hi); (try clear ho0); (try clear ho1); obtain ⟨Ao20, co20, eo20⟩ := Kd.R_slice HO1027.out; subst eo20) | (go_at_call 65; (with_reducible refine (dict_Words.calls _ _ y1025 t1034 t1035 _ ?side1 ?side2 A13.out).mono ?_); (case side1 => repeat (first | exact (Kd.R_reads' HO1027.out).2.2 | (with_reducible refine Kd.C_alloc ?_ _) | (with_reducible refine Kd.C_drewN ?_ _) | (with_reducible refine Kd.C_drew ?_))); (case side2 => exact (Kd.R_reads' HO1027.out).2.1); rintro e w21 ⟨v1036, v1038, rfl, ho0, ho1, hb⟩; have n0_ := Aside0.mk (Kd.R_elder' (by (with_reducible repeat (first | apply Kd.R_alloc | apply Kd.R_drewN | apply Kd.R_drew)); exact HO1027.out) (Kd.R_base ho0) hb); have n1_ := Aside0.mk (Kd.R_elder' (by (with_reducible repeat (first | apply Kd.R_alloc | apply Kd.R_drewN | apply Kd.R_drew)); exact HO1031.out) (Kd.R_base ho0) hb); have n2_ := Aside0.mk (Kd.R_elder' (by (with_reducible repeat (first | apply Kd.R_alloc | apply Kd.R_drewN | apply Kd.R_drew)); exact HO1033.out) (Kd.R_base ho1) hb); have n3_ := Aside0.mk (Kd.R_lower (Kd.R_new' (Kd.R_new' ho0 (Kd.R_lt (by (with_reducible repeat (first | apply Kd.R_alloc | apply Kd.R_drewN | apply Kd.R_drew)); exact HO1027.out))) (Kd.R_lt (by (with_reducible repeat (first | apply Kd.R_alloc | apply Kd.R_drewN | apply Kd.R_drew)); exact HO1031.out))) (below_size (by repeat (first | (with_reducible first | exact HB.out | apply below_alloc | apply pw_below_drewN | apply below_drew1) | exact HB.out)))); have n4_ := Aside0.mk (Kd.R_lower (Kd.R_new' ho1 (Kd.R_lt (by (with_reducible repeat (first | apply Kd.R_alloc | apply Kd.R_drewN | apply Kd.R_drew)); exact HO1033.out))) (below_size (by repeat (first | (with_reducible first | exact HB.out | apply below_alloc | apply pw_below_drewN | apply below_drew1) | exact HB.out)))); have n5_ := Aside0.mk (below_step (by repeat (first | (with_reducible first | exact HB.out | apply below_alloc | apply pw_below_drewN | apply below_drew1) | exact HB.out)) hb); clear HO1027; clear HO1031; clear HO1033; clear HB; have HO1027 := n0_; have HO1031 := n1_; have HO1033 := n2_; have HO1037 := n3_; have HO1039 := n4_; have HB := n5_; clear n0_ n1_ n2_ n3_ n4_ n5_; (try clear hb); (try clear hb2); (try clear hk); (try clear hi); (try clear ho0); (try clear ho1))); go_upto_region 6 with (first | ((with_reducible refine gate_dst (N := 25) rfl ?_); (try (refine gate_guard (by rfl) ?_; dsimp only)); refine Kd.R_lit Kd.string _ 9 ?hg (N := 25) ?hd (xs := ([] : List ByteArray)) (inner := []) (ok := fun _ => True) (okp := fun _ => True) ?hr ?hp (fun _ hk => hk) trivial (Below.refl _ _) (Nat.le_refl _) (by simp) ?_; (case hd => rfl); (case hg => rfl); (case hr => first | (go_simp; done) | (go_simp; rfl)); (case hp => exact (Reps.none _ _)); intro v1020 w15 ho16 hb hg_ hnew_; clear hg_ hnew_; (first | rw [← Ny1019.out] at ho16 | (simp only [Int.reduceToNat] at ho16; rw [← Ny1019.out] at ho16)); have n0_ := Aside0.mk (Kd.R_lower ho16 (below_size (by repeat (first | (with_reducible first | exact HB.out | apply below_alloc | apply pw_below_drewN | apply below_drew1) | exact HB.out)))); have n1_ := Aside0.mk (below_step (by repeat (first | (with_reducible first | exact HB.out | apply below_alloc | apply pw_below_drewN | apply below_drew1) | exact HB.out)) hb); clear HB; have HO1021 := n0_; have HB := n1_; clear n0_ n1_; clear hb ho16) | ((with_reducible refine gate_builtin (b := .append) (xs := #[.tmp 25, .tmp 26]) rfl ?_); (try (refine gate_guard (by rfl) ?_; dsimp only)); at_builtin; refine Kd.R_append_rows Kd.string (w0 := w) w.heap.size rfl (.tmp 25) (.tmp 26) 35 9 (.string ⟨#[]⟩) 16 rfl Try.underlying35 info9 rfl (by decide) (by omega) v1020 y1019 l0 _ _ _ (fun _ => True) (fun _ => False) rfl rfl ?aO ?aR (fun _ _ h => h) (fun _ h => h.elim) ?aF ?aB ?aS ?aL ?_; (case aR => repeat (first | exact (Kd.C_below HR0.out HB.out) | (with_reducible refine Kd.C_alloc ?_ _) | (with_reducible refine Kd.C_drewN ?_ _) | (with_reducible refine Kd.C_drew ?_))); (case aB => exact (by repeat (first | (with_reducible first | exact HB.out | apply below_alloc | apply pw_below_drewN | apply below_drew1) | exact HB.out))); (case aF => exact (fun _ _ => trivial)); (case aO => exact (by (with_reducible repeat (first | apply Kd.R_alloc | apply Kd.R_drewN | apply Kd.R_drew)); exact HO1021.out)); (case aS => exact (below_size (by repeat (first | (with_reducible first | exact HB.out | apply below_alloc | apply pw_below_drewN | apply below_drew1) | exact HB.out)))); (case aL => have := LMc10.out; omega); intro v1023 w17 ho hb hg hat; rw [← Ny1022.out] at ho; have n0_ := Aside0.mk (hb); have n1_ := Aside0.mk (ho); clear HB; clear HO1021; have HB := n0_; have HO1024 := n1_; clear n0_ n1_; clear ho hb hg hat) | ((with_reducible refine gate_builtin (b := .append) (xs := #[.tmp 27, .tmp 28]) rfl ?_); (try (refine gate_guard (by rfl) ?_; dsimp only)); at_builtin; refine Kd.R_append_rows Kd.string (w0 := w) w.heap.size rfl (.tmp 27) (.tmp 28) 35 9 (.string ⟨#[]⟩) 16 rfl Try.underlying35 info9 rfl (by decide) (by omega) v1023 y1022 l1 _ _ _ (fun _ => True) (fun _ => False) rfl rfl ?aO ?aR (fun _ _ h => h) (fun _ h => h.elim) ?aF ?aB ?aS ?aL ?_; (case aR => repeat (first | exact (Kd.C_below HR1.out HB.out) | (with_reducible refine Kd.C_alloc ?_ _) | (with_reducible refine Kd.C_drewN ?_ _) | (with_reducible refine Kd.C_drew ?_))); (case aB => exact (by repeat (first | (with_reducible first | exact HB.out | apply below_alloc | apply pw_below_drewN | apply below_drew1) | exact HB.out))); (case aF => exact (fun _ _ => trivial)); (case aO => exact (by (with_reducible repeat (first | apply Kd.R_alloc | apply Kd.R_drewN | apply Kd.R_drew)); exact HO1024.out)); (case aS => exact (below_size (by repeat (first | (with_reducible first | exact HB.out | apply below_alloc | apply pw_below_drewN | apply below_drew1) | exact HB.out)))); (case aL => have := LMc11.out; omega); intro v1026 w18 ho hb hg hat; rw [← Ny1025.out] at ho; have n0_ := Aside0.mk (hb); have n1_ := Aside0.mk (ho); clear HB; clear HO1024; have HB := n0_; have HO1027 := n1_; clear n0_ n1_; clear ho hb hg hat) | (go_at_call 65; (with_reducible refine (dict_Words.calls _ _ l0 t1028 t1029 _ ?side1 ?side2 A12.out).mono ?_); (case side1 => repeat (first | exact (Kd.C_below HR0.out HB.out) | (with_reducible refine Kd.C_alloc ?_ _) | (with_reducible refine Kd.C_drewN ?_ _) | (with_reducible refine Kd.C_drew ?_))); (case side2 => exact HC0.out); rintro e w19 ⟨v1030, v1032, rfl, ho0, ho1, hb⟩; have n0_ := Aside0.mk (Kd.R_elder' (by (with_reducible repeat (first | apply Kd.R_alloc | apply Kd.R_drewN | apply Kd.R_drew)); exact HO1027.out) (Kd.R_base ho0) hb); have n1_ := Aside0.mk (Kd.R_lower (Kd.R_new' ho0 (Kd.R_lt (by (with_reducible repeat (first | apply Kd.R_alloc | apply Kd.R_drewN | apply Kd.R_drew)); exact HO1027.out))) (below_size (by repeat (first | (with_reducible first | exact HB.out | apply below_alloc | apply pw_below_drewN | apply below_drew1) | exact HB.out)))); have n2_ := Aside0.mk (Kd.R_lower ho1 (below_size (by repeat (first | (with_reducible first | exact HB.out | apply below_alloc | apply pw_below_drewN | apply below_drew1) | exact HB.out)))); have n3_ := Aside0.mk (below_step (by repeat (first | (with_reducible first | exact HB.out | apply below_alloc | apply pw_below_drewN | apply below_drew1) | exact HB.out)) hb); clear HO1027; clear HB; have HO1027 := n0_; have HO1031 := n1_; have HO1033 := n2_; have HB := n3_; clear n0_ n1_ n2_ n3_; (try clear hb); (try clear hb2); (try clear hk); (try clear hi); (try clear ho0); (try clear ho1); obtain ⟨Ao20, co20, eo20⟩ := Kd.R_slice HO1027.out; subst eo20) | (go_at_call 65; (with_reducible refine (dict_Words.calls _ _ y1025 t1034 t1035 _ ?side1 ?side2 A13.out).mono ?_); (case side1 => repeat (first | exact (Kd.R_reads' HO1027.out).2.2 | (with_reducible refine Kd.C_alloc ?_ _) | (with_reducible refine Kd.C_drewN ?_ _) | (with_reducible refine Kd.C_drew ?_))); (case side2 => exact (Kd.R_reads' HO1027.out).2.1); rintro e w21 ⟨v1036, v1038, rfl, ho0, ho1, hb⟩; have n0_ := Aside0.mk (Kd.R_elder' (by (with_reducible repeat (first | apply Kd.R_alloc | apply Kd.R_drewN | apply Kd.R_drew)); exact HO1027.out) (Kd.R_base ho0) hb); have n1_ := Aside0.mk (Kd.R_elder' (by (with_reducible repeat (first | apply Kd.R_alloc | apply Kd.R_drewN | apply Kd.R_drew)); exact HO1031.out) (Kd.R_base ho0) hb); have n2_ := Aside0.mk (Kd.R_elder' (by (with_reducible repeat (first | apply Kd.R_alloc | apply Kd.R_drewN | apply Kd.R_drew)); exact HO1033.out) (Kd.R_base ho1) hb); have n3_ := Aside0.mk (Kd.R_lower (Kd.R_new' (Kd.R_new' ho0 (Kd.R_lt (by (with_reducible repeat (first | apply Kd.R_alloc | apply Kd.R_drewN | apply Kd.R_drew)); exact HO1027.out))) (Kd.R_lt (by (with_reducible repeat (first | apply Kd.R_alloc | apply Kd.R_drewN | apply Kd.R_drew)); exact HO1031.out))) (below_size (by repeat (first | (with_reducible first | exact HB.out | apply below_alloc | apply pw_below_drewN | apply below_drew1) | exact HB.out)))); have n4_ := Aside0.mk (Kd.R_lower (Kd.R_new' ho1 (Kd.R_lt (by (with_reducible repeat (first | apply Kd.R_alloc | apply Kd.R_drewN | apply Kd.R_drew)); exact HO1033.out))) (below_size (by repeat (first | (with_reducible first | exact HB.out | apply below_alloc | apply pw_below_drewN | apply below_drew1) | exact HB.out)))); have n5_ := Aside0.mk (below_step (by repeat (first | (with_reducible first | exact HB.out | apply below_alloc | apply pw_below_drewN | apply below_drew1) | exact HB.out)) hb); clear HO1027; clear HO1031; clear HO1033; clear HB; have HO1027 := n0_; have HO1031 := n1_; have HO1033 := n2_; have HO1037 := n3_; have HO1039 := n4_; have HB := n5_; clear n0_ n1_ n2_ n3_ n4_ n5_; (try clear hb); (try clear hb2); (try clear hk); (try clear hi); (try clear ho0); (try clear ho1))))
            (try simp only [Act.put, List.setIfInBounds_toArray, List.set_cons_zero, List.set_cons_succ])
            go_cut [69] (fun v69 wc => ∃ (kq : Nat) (x69_13 : Bool), v69 = .bool x69_13 ∧ Aside0 (bonsailaw08_DictJoins.j1 kq l0 l1 y1025 t1028 t1034 t1035 x69_13 = some r) ∧ Aside0 (kq ≤ kj2) ∧ Aside0 (Kd.R Kd.string 9 wc w.heap.size (fun k_ => some k_ ≠ (v1030 : Value).ownBlock ∧ some k_ ≠ (v1036 : Value).ownBlock) (.slice Ao20 y1025.length co20) y1025) ∧ Aside0 (Kd.R Kd.string 9 wc w.heap.size (fun k_ => some k_ ≠ ((.slice Ao20 y1025.length co20) : Value).ownBlock ∧ some k_ ≠ (v1036 : Value).ownBlock) v1030 t1028) ∧ Aside0 (Kd.R Kd.string 9 wc w.heap.size (fun k_ => some k_ ≠ ((.slice Ao20 y1025.length co20) : Value).ownBlock ∧ some k_ ≠ (v1030 : Value).ownBlock) v1036 t1034) ∧ Aside0 (Kd.R (Kd.int .u64) 51 wc w.heap.size (fun _ => True) v1038 t1035) ∧ Aside0 (Below w.heap.size w wc))
            case first =>
              have H := HC14.out
              clear HC14
              by_cases c22 : (t1034.length : Int) < (t1028.length : Int)
              · rw [if_pos c22] at H
                have c22b0 : decide ((t1034.length : Int) < (t1028.length : Int)) = true := decide_eq_true c22
                have c22b1 : decide (t1034.length < t1028.length) = true := decide_eq_true (Int.ofNat_lt.mp c22)
                clear c22
                (first | rw [c22b0] | (simp only [i64_w, i32_w]; rw [c22b0]) | skip)
                have H' := Aside0.mk H
                clear H
                obtain ⟨Ao23, co23, eo23⟩ := Kd.R_slice HO1037.out
                subst eo23
                obtain ⟨Ao24, co24, eo24⟩ := Kd.R_slice HO1031.out
                subst eo24
                go_wp2
                repeat (go_quiet (fail); try go_wp2)
                go_meet
                case rel => exact ⟨_, (true), (by first | rfl | (simp; done) | (simp [*]; done)), H', ⟨by have := HJ2.out; first | omega | exact Nat.le_refl _⟩, ⟨by (with_reducible repeat (first | apply Kd.R_alloc | apply Kd.R_drewN | apply Kd.R_drew)); exact Kd.R_mono HO1027.out (fun _ hk => ⟨hk.1.2, hk.2⟩)⟩, ⟨by (with_reducible repeat (first | apply Kd.R_alloc | apply Kd.R_drewN | apply Kd.R_drew)); exact Kd.R_mono HO1031.out (fun _ hk => ⟨hk.1.2, hk.2⟩)⟩, ⟨by (with_reducible repeat (first | apply Kd.R_alloc | apply Kd.R_drewN | apply Kd.R_drew)); exact Kd.R_mono HO1037.out (fun _ hk => ⟨hk.1.2, hk.2⟩)⟩, ⟨by (with_reducible repeat (first | apply Kd.R_alloc | apply Kd.R_drewN | apply Kd.R_drew)); exact Kd.R_mono HO1039.out (fun _ hk => trivial)⟩, ⟨by repeat (first | (with_reducible first | exact HB.out | apply below_alloc | apply pw_below_drewN | apply below_drew1) | exact HB.out)⟩⟩
              · rw [if_neg c22] at H
                have c22b0 : decide ((t1034.length : Int) < (t1028.length : Int)) = false := decide_eq_false c22
                have c22b1 : decide (t1034.length < t1028.length) = false := decide_eq_false (fun h => c22 (Int.ofNat_lt.mpr h))
                clear c22
                (first | rw [c22b0] | (simp only [i64_w, i32_w]; rw [c22b0]) | skip)
                by_cases c25 : (t1035.length : Int) = (y1025.length : Int)
                · rw [if_pos c25] at H
                  have c25b0 : ((t1035.length : Int) == (y1025.length : Int)) = true := beq_iff_eq.mpr c25
                  have c25b1 : ((t1035.length : Int) != (y1025.length : Int)) = false := bne_eq_false_iff_eq.mpr c25
                  have c25b2 : (t1035.length == y1025.length) = true := by first | simpa using c25 | (simp at c25 ⊢; omega)
                  clear c25
                  by_cases c26 : 0 ≤ (t1028.length : Int)
                  · rw [if_pos c26] at H
                    have c26b0 := eq_true c26
                    have c26b1 : decide (0 ≤ (t1028.length : Int)) = true := decide_eq_true c26
                    clear c26
                    by_cases c27 : (t1028.length : Int) ≤ (t1034.length : Int)
                    · rw [if_pos c27] at H
                      have c27b0 := eq_true c27
                      have c27b1 : decide ((t1028.length : Int) ≤ (t1034.length : Int)) = true := decide_eq_true c27
                      clear c27
                      obtain ⟨y1040, hy1040⟩ : ∃ y_ : List ByteArray, y_ = (t1034.take t1028.length) := ⟨_, rfl⟩
                      replace H : ((bonsairef04_Same.f kj2 y1040 t1028).bind fun t1044 => (if t1044 = true then (if 0 ≤ (l0.length : Int) then (if (l0.length : Int) ≤ (t1035.length : Int) then ((bonsairef06_Same.f kj2 (t1035.take l0.length) t1029).bind fun t1049 => (bonsailaw08_DictJoins.j1 kj2 l0 l1 y1025 t1028 t1034 t1035 (!t1049))) else (none)) else (none)) else (bonsailaw08_DictJoins.j1 kj2 l0 l1 y1025 t1028 t1034 t1035 true))) = some r := by first | (rw [hy1040]; with_reducible exact H) | (have H2_ := (Option.bind_some _ _).symm.trans H; rw [hy1040]; with_reducible exact H2_) | (have H2_ := (Option.bind_some _ _).symm.trans H; with_reducible exact H2_) | with_reducible exact H | (rw [hy1040]; exact H) | exact H
                      have Ny1040 := Aside0.mk hy1040
                      clear hy1040
                      replace H := Option.bind_eq_some_iff.mp H
                      obtain ⟨t1044, A280, H⟩ := H
                      replace H : (if t1044 = true then (if 0 ≤ (l0.length : Int) then (if (l0.length : Int) ≤ (t1035.length : Int) then ((bonsairef06_Same.f kj2 (t1035.take l0.length) t1029).bind fun t1049 => (bonsailaw08_DictJoins.j1 kj2 l0 l1 y1025 t1028 t1034 t1035 (!t1049))) else (none)) else (none)) else (bonsailaw08_DictJoins.j1 kj2 l0 l1 y1025 t1028 t1034 t1035 true)) = some r := H
                      have A28 := Aside0.mk A280
                      clear A280
                      by_cases c29 : t1044 = true
                      · subst c29
                        have H1 : (if 0 ≤ (l0.length : Int) then (if (l0.length : Int) ≤ (t1035.length : Int) then ((bonsairef06_Same.f kj2 (t1035.take l0.length) t1029).bind fun t1049 => (bonsailaw08_DictJoins.j1 kj2 l0 l1 y1025 t1028 t1034 t1035 (!t1049))) else (none)) else (none)) = some r := by rw [if_pos rfl] at H; exact H
                        clear H
                        have H := H1
                        clear H1
                        by_cases c30 : 0 ≤ (l0.length : Int)
                        · rw [if_pos c30] at H
                          have c30b0 := eq_true c30
                          have c30b1 : decide (0 ≤ (l0.length : Int)) = true := decide_eq_true c30
                          clear c30
                          by_cases c31 : (l0.length : Int) ≤ (t1035.length : Int)
                          · rw [if_pos c31] at H
                            have c31b0 := eq_true c31
                            have c31b1 : decide ((l0.length : Int) ≤ (t1035.length : Int)) = true := decide_eq_true c31
                            clear c31
                            obtain ⟨y1045, hy1045⟩ : ∃ y_ : List Int, y_ = (t1035.take l0.length) := ⟨_, rfl⟩
                            replace H : ((bonsairef06_Same.f kj2 y1045 t1029).bind fun t1049 => (bonsailaw08_DictJoins.j1 kj2 l0 l1 y1025 t1028 t1034 t1035 (!t1049))) = some r := by first | (rw [hy1045]; with_reducible exact H) | (have H2_ := (Option.bind_some _ _).symm.trans H; rw [hy1045]; with_reducible exact H2_) | (have H2_ := (Option.bind_some _ _).symm.trans H; with_reducible exact H2_) | with_reducible exact H | (rw [hy1045]; exact H) | exact H
                            have Ny1045 := Aside0.mk hy1045
                            clear hy1045
                            replace H := Option.bind_eq_some_iff.mp H
                            obtain ⟨t1049, A320, H⟩ := H
                            replace H : (bonsailaw08_DictJoins.j1 kj2 l0 l1 y1025 t1028 t1034 t1035 (!t1049)) = some r := H
                            have A32 := Aside0.mk A320
                            clear A320
                            have H' := Aside0.mk H
                            clear H
                            obtain ⟨Ao33, co33, eo33⟩ := Kd.R_slice HO1037.out
                            subst eo33
                            obtain ⟨Ao34, co34, eo34⟩ := Kd.R_slice HO1031.out
                            subst eo34
                            obtain ⟨Ao35, co35, eo35⟩ := Kd.R_slice HO1039.out
                            subst eo35
                            have q36 : ((t1028.length : Int) : Int) ≤ ((t1034.length : Int) : Int) := of_decide_eq_true (by first | (with_reducible assumption) | assumption)
                            obtain ⟨i036, hi036, _, hsz36, _⟩ := info_parts info9
                            have hroom36 : t1034.length ≤ co33 := (Kd.R_reads' HO1037.out).2.1
                            have hC36 : Kd.C Kd.string _ Ao33 t1034.length t1034 := (Kd.R_reads' HO1037.out).2.2
                            have hcut36 := cut_to (P := Try.prog) 35 9 .i64 Try.underlying35 hi036 Ao33 t1034.length co33 (t1028.length : Int) (of_decide_eq_true (by first | (with_reducible assumption) | assumption)) q36 hroom36
                            have hr36 := Kd.C_take (m := t1028.length) hC36 (by omega)
                            have hy36 : y1040.length = t1028.length := (by rw [Ny1040.out, List.length_take]; omega)
                            rw [← Ny1040.out] at hr36
                            (try rw [Int.toNat_natCast] at hcut36)
                            rw [← hy36] at hcut36
                            (try rw [show ((y1040.length : Nat) : Int) = ((t1028.length : Nat) : Int) from by omega] at hcut36)
                            have HR1043 := Aside0.mk hr36
                            have HC1043 := Aside0.mk (show y1040.length ≤ co33 from by omega)
                            clear hr36 hC36 hroom36 hi036 hsz36
                            have KY36 := Aside0.mk hy36
                            clear hy36
                            have KL36 := Aside0.mk (show t1028.length ≤ t1034.length from by omega)
                            replace q36 := eq_true q36
                            go_wp2_with (first | (go_at_call 69; (with_reducible refine (bonsairef04_Same.calls kj2 _ _ y1040 _ _ t1028 true _ ?side1 ?side2 ?side3 ?side4 A28.out).mono ?_); (case side1 => repeat (first | exact (by repeat (first | (with_reducible exact HR1043.out) | (with_reducible refine Kd.C_alloc ?_ _) | (with_reducible refine Kd.C_drewN ?_ _) | (with_reducible refine Kd.C_drew ?_) | exact HR1043.out)) | (with_reducible refine Kd.C_alloc ?_ _) | (with_reducible refine Kd.C_drewN ?_ _) | (with_reducible refine Kd.C_drew ?_))); (case side2 => exact HC1043.out); (case side3 => repeat (first | exact (Kd.R_reads' HO1031.out).2.2 | (with_reducible refine Kd.C_alloc ?_ _) | (with_reducible refine Kd.C_drewN ?_ _) | (with_reducible refine Kd.C_drew ?_))); (case side4 => exact (Kd.R_reads' HO1031.out).2.1); rintro e w' ⟨rfl, ⟨nd, rfl⟩⟩; (try first | exact ⟨rfl, _, World.drewN_drewN _ _ _⟩ | exact ⟨rfl, _, Eq.trans (World.drewN_drewN _ _ _) (congrArg (World.drewN _) (Nat.add_assoc _ _ _))⟩); have q37 : ((l0.length : Int) : Int) ≤ ((t1035.length : Int) : Int) := of_decide_eq_true (by first | (with_reducible assumption) | assumption); obtain ⟨i037, hi037, _, hsz37, _⟩ := info_parts info51; have hroom37 : t1035.length ≤ co35 := (Kd.R_reads' HO1039.out).2.1; have hC37 : Kd.C (Kd.int .u64) _ Ao35 t1035.length t1035 := (Kd.R_reads' HO1039.out).2.2; have hcut37 := cut_to (P := Try.prog) 38 51 .i64 Try.underlying38 hi037 Ao35 t1035.length co35 (l0.length : Int) (of_decide_eq_true (by first | (with_reducible assumption) | assumption)) q37 hroom37; have hr37 := Kd.C_take (m := l0.length) hC37 (by omega); have hy37 : y1045.length = l0.length := (by rw [Ny1045.out, List.length_take]; omega); rw [← Ny1045.out] at hr37; (try rw [Int.toNat_natCast] at hcut37); rw [← hy37] at hcut37; (try rw [show ((y1045.length : Nat) : Int) = ((l0.length : Nat) : Int) from by omega] at hcut37); have HR1048 := Aside0.mk hr37; have HC1048 := Aside0.mk (show y1045.length ≤ co35 from by omega); clear hr37 hC37 hroom37 hi037 hsz37; have KY37 := Aside0.mk hy37; clear hy37; have KL37 := Aside0.mk (show l0.length ≤ t1035.length from by omega); replace q37 := eq_true q37; obtain ⟨Ao38, co38, eo38⟩ := Kd.R_slice HO1033.out; subst eo38) | (go_at_call 48; (with_reducible refine (bonsairef06_Same.calls kj2 _ _ y1045 _ _ t1029 t1049 _ ?side1 ?side2 ?side3 ?side4 A32.out).mono ?_); (case side1 => repeat (first | exact (by repeat (first | (with_reducible exact HR1048.out) | (with_reducible refine Kd.C_alloc ?_ _) | (with_reducible refine Kd.C_drewN ?_ _) | (with_reducible refine Kd.C_drew ?_) | exact HR1048.out)) | (with_reducible refine Kd.C_alloc ?_ _) | (with_reducible refine Kd.C_drewN ?_ _) | (with_reducible refine Kd.C_drew ?_))); (case side2 => exact HC1048.out); (case side3 => repeat (first | exact (Kd.R_reads' HO1033.out).2.2 | (with_reducible refine Kd.C_alloc ?_ _) | (with_reducible refine Kd.C_drewN ?_ _) | (with_reducible refine Kd.C_drew ?_))); (case side4 => exact (Kd.R_reads' HO1033.out).2.1); rintro e w' ⟨rfl, ⟨nd, rfl⟩⟩; (try first | exact ⟨rfl, _, World.drewN_drewN _ _ _⟩ | exact ⟨rfl, _, Eq.trans (World.drewN_drewN _ _ _) (congrArg (World.drewN _) (Nat.add_assoc _ _ _))⟩)))
                            repeat (go_quiet (first | (go_at_call 69; (with_reducible refine (bonsairef04_Same.calls kj2 _ _ y1040 _ _ t1028 true _ ?side1 ?side2 ?side3 ?side4 A28.out).mono ?_); (case side1 => repeat (first | exact (by repeat (first | (with_reducible exact HR1043.out) | (with_reducible refine Kd.C_alloc ?_ _) | (with_reducible refine Kd.C_drewN ?_ _) | (with_reducible refine Kd.C_drew ?_) | exact HR1043.out)) | (with_reducible refine Kd.C_alloc ?_ _) | (with_reducible refine Kd.C_drewN ?_ _) | (with_reducible refine Kd.C_drew ?_))); (case side2 => exact HC1043.out); (case side3 => repeat (first | exact (Kd.R_reads' HO1031.out).2.2 | (with_reducible refine Kd.C_alloc ?_ _) | (with_reducible refine Kd.C_drewN ?_ _) | (with_reducible refine Kd.C_drew ?_))); (case side4 => exact (Kd.R_reads' HO1031.out).2.1); rintro e w' ⟨rfl, ⟨nd, rfl⟩⟩; (try first | exact ⟨rfl, _, World.drewN_drewN _ _ _⟩ | exact ⟨rfl, _, Eq.trans (World.drewN_drewN _ _ _) (congrArg (World.drewN _) (Nat.add_assoc _ _ _))⟩); have q37 : ((l0.length : Int) : Int) ≤ ((t1035.length : Int) : Int) := of_decide_eq_true (by first | (with_reducible assumption) | assumption); obtain ⟨i037, hi037, _, hsz37, _⟩ := info_parts info51; have hroom37 : t1035.length ≤ co35 := (Kd.R_reads' HO1039.out).2.1; have hC37 : Kd.C (Kd.int .u64) _ Ao35 t1035.length t1035 := (Kd.R_reads' HO1039.out).2.2; have hcut37 := cut_to (P := Try.prog) 38 51 .i64 Try.underlying38 hi037 Ao35 t1035.length co35 (l0.length : Int) (of_decide_eq_true (by first | (with_reducible assumption) | assumption)) q37 hroom37; have hr37 := Kd.C_take (m := l0.length) hC37 (by omega); have hy37 : y1045.length = l0.length := (by rw [Ny1045.out, List.length_take]; omega); rw [← Ny1045.out] at hr37; (try rw [Int.toNat_natCast] at hcut37); rw [← hy37] at hcut37; (try rw [show ((y1045.length : Nat) : Int) = ((l0.length : Nat) : Int) from by omega] at hcut37); have HR1048 := Aside0.mk hr37; have HC1048 := Aside0.mk (show y1045.length ≤ co35 from by omega); clear hr37 hC37 hroom37 hi037 hsz37; have KY37 := Aside0.mk hy37; clear hy37; have KL37 := Aside0.mk (show l0.length ≤ t1035.length from by omega); replace q37 := eq_true q37; obtain ⟨Ao38, co38, eo38⟩ := Kd.R_slice HO1033.out; subst eo38) | (go_at_call 48; (with_reducible refine (bonsairef06_Same.calls kj2 _ _ y1045 _ _ t1029 t1049 _ ?side1 ?side2 ?side3 ?side4 A32.out).mono ?_); (case side1 => repeat (first | exact (by repeat (first | (with_reducible exact HR1048.out) | (with_reducible refine Kd.C_alloc ?_ _) | (with_reducible refine Kd.C_drewN ?_ _) | (with_reducible refine Kd.C_drew ?_) | exact HR1048.out)) | (with_reducible refine Kd.C_alloc ?_ _) | (with_reducible refine Kd.C_drewN ?_ _) | (with_reducible refine Kd.C_drew ?_))); (case side2 => exact HC1048.out); (case side3 => repeat (first | exact (Kd.R_reads' HO1033.out).2.2 | (with_reducible refine Kd.C_alloc ?_ _) | (with_reducible refine Kd.C_drewN ?_ _) | (with_reducible refine Kd.C_drew ?_))); (case side4 => exact (Kd.R_reads' HO1033.out).2.1); rintro e w' ⟨rfl, ⟨nd, rfl⟩⟩; (try first | exact ⟨rfl, _, World.drewN_drewN _ _ _⟩ | exact ⟨rfl, _, Eq.trans (World.drewN_drewN _ _ _) (congrArg (World.drewN _) (Nat.add_assoc _ _ _))⟩))); try go_wp2_with (first | (go_at_call 69; (with_reducible refine (bonsairef04_Same.calls kj2 _ _ y1040 _ _ t1028 true _ ?side1 ?side2 ?side3 ?side4 A28.out).mono ?_); (case side1 => repeat (first | exact (by repeat (first | (with_reducible exact HR1043.out) | (with_reducible refine Kd.C_alloc ?_ _) | (with_reducible refine Kd.C_drewN ?_ _) | (with_reducible refine Kd.C_drew ?_) | exact HR1043.out)) | (with_reducible refine Kd.C_alloc ?_ _) | (with_reducible refine Kd.C_drewN ?_ _) | (with_reducible refine Kd.C_drew ?_))); (case side2 => exact HC1043.out); (case side3 => repeat (first | exact (Kd.R_reads' HO1031.out).2.2 | (with_reducible refine Kd.C_alloc ?_ _) | (with_reducible refine Kd.C_drewN ?_ _) | (with_reducible refine Kd.C_drew ?_))); (case side4 => exact (Kd.R_reads' HO1031.out).2.1); rintro e w' ⟨rfl, ⟨nd, rfl⟩⟩; (try first | exact ⟨rfl, _, World.drewN_drewN _ _ _⟩ | exact ⟨rfl, _, Eq.trans (World.drewN_drewN _ _ _) (congrArg (World.drewN _) (Nat.add_assoc _ _ _))⟩); have q37 : ((l0.length : Int) : Int) ≤ ((t1035.length : Int) : Int) := of_decide_eq_true (by first | (with_reducible assumption) | assumption); obtain ⟨i037, hi037, _, hsz37, _⟩ := info_parts info51; have hroom37 : t1035.length ≤ co35 := (Kd.R_reads' HO1039.out).2.1; have hC37 : Kd.C (Kd.int .u64) _ Ao35 t1035.length t1035 := (Kd.R_reads' HO1039.out).2.2; have hcut37 := cut_to (P := Try.prog) 38 51 .i64 Try.underlying38 hi037 Ao35 t1035.length co35 (l0.length : Int) (of_decide_eq_true (by first | (with_reducible assumption) | assumption)) q37 hroom37; have hr37 := Kd.C_take (m := l0.length) hC37 (by omega); have hy37 : y1045.length = l0.length := (by rw [Ny1045.out, List.length_take]; omega); rw [← Ny1045.out] at hr37; (try rw [Int.toNat_natCast] at hcut37); rw [← hy37] at hcut37; (try rw [show ((y1045.length : Nat) : Int) = ((l0.length : Nat) : Int) from by omega] at hcut37); have HR1048 := Aside0.mk hr37; have HC1048 := Aside0.mk (show y1045.length ≤ co35 from by omega); clear hr37 hC37 hroom37 hi037 hsz37; have KY37 := Aside0.mk hy37; clear hy37; have KL37 := Aside0.mk (show l0.length ≤ t1035.length from by omega); replace q37 := eq_true q37; obtain ⟨Ao38, co38, eo38⟩ := Kd.R_slice HO1033.out; subst eo38) | (go_at_call 48; (with_reducible refine (bonsairef06_Same.calls kj2 _ _ y1045 _ _ t1029 t1049 _ ?side1 ?side2 ?side3 ?side4 A32.out).mono ?_); (case side1 => repeat (first | exact (by repeat (first | (with_reducible exact HR1048.out) | (with_reducible refine Kd.C_alloc ?_ _) | (with_reducible refine Kd.C_drewN ?_ _) | (with_reducible refine Kd.C_drew ?_) | exact HR1048.out)) | (with_reducible refine Kd.C_alloc ?_ _) | (with_reducible refine Kd.C_drewN ?_ _) | (with_reducible refine Kd.C_drew ?_))); (case side2 => exact HC1048.out); (case side3 => repeat (first | exact (Kd.R_reads' HO1033.out).2.2 | (with_reducible refine Kd.C_alloc ?_ _) | (with_reducible refine Kd.C_drewN ?_ _) | (with_reducible refine Kd.C_drew ?_))); (case side4 => exact (Kd.R_reads' HO1033.out).2.1); rintro e w' ⟨rfl, ⟨nd, rfl⟩⟩; (try first | exact ⟨rfl, _, World.drewN_drewN _ _ _⟩ | exact ⟨rfl, _, Eq.trans (World.drewN_drewN _ _ _) (congrArg (World.drewN _) (Nat.add_assoc _ _ _))⟩))))
                            go_meet
                            case rel => exact ⟨_, (!t1049), (by first | rfl | (simp; done) | (simp [*]; done)), H', ⟨by have := HJ2.out; first | omega | exact Nat.le_refl _⟩, ⟨by (with_reducible repeat (first | apply Kd.R_alloc | apply Kd.R_drewN | apply Kd.R_drew)); exact Kd.R_mono HO1027.out (fun _ hk => ⟨hk.1.2, hk.2⟩)⟩, ⟨by (with_reducible repeat (first | apply Kd.R_alloc | apply Kd.R_drewN | apply Kd.R_drew)); exact Kd.R_mono HO1031.out (fun _ hk => ⟨hk.1.2, hk.2⟩)⟩, ⟨by (with_reducible repeat (first | apply Kd.R_alloc | apply Kd.R_drewN | apply Kd.R_drew)); exact Kd.R_mono HO1037.out (fun _ hk => ⟨hk.1.2, hk.2⟩)⟩, ⟨by (with_reducible repeat (first | apply Kd.R_alloc | apply Kd.R_drewN | apply Kd.R_drew)); exact Kd.R_mono HO1039.out (fun _ hk => trivial)⟩, ⟨by repeat (first | (with_reducible first | exact HB.out | apply below_alloc | apply pw_below_drewN | apply below_drew1) | exact HB.out)⟩⟩
                          · rw [if_neg c31] at H
                            exact absurd H (by simp)
                        · rw [if_neg c30] at H
                          exact absurd H (by simp)
                      · replace c29 := Bool.eq_false_iff.mpr c29
                        subst c29
                        have H1 : (bonsailaw08_DictJoins.j1 kj2 l0 l1 y1025 t1028 t1034 t1035 true) = some r := by rw [if_neg (show ¬ (false = true) by decide)] at H; exact H
                        clear H
                        have H := H1
                        clear H1
                        have H' := Aside0.mk H
                        clear H
                        obtain ⟨Ao39, co39, eo39⟩ := Kd.R_slice HO1037.out
                        subst eo39
                        obtain ⟨Ao40, co40, eo40⟩ := Kd.R_slice HO1031.out
                        subst eo40
                        obtain ⟨Ao41, co41, eo41⟩ := Kd.R_slice HO1039.out
                        subst eo41
                        have q42 : ((t1028.length : Int) : Int) ≤ ((t1034.length : Int) : Int) := of_decide_eq_true (by first | (with_reducible assumption) | assumption)
                        obtain ⟨i042, hi042, _, hsz42, _⟩ := info_parts info9
                        have hroom42 : t1034.length ≤ co39 := (Kd.R_reads' HO1037.out).2.1
                        have hC42 : Kd.C Kd.string _ Ao39 t1034.length t1034 := (Kd.R_reads' HO1037.out).2.2
                        have hcut42 := cut_to (P := Try.prog) 35 9 .i64 Try.underlying35 hi042 Ao39 t1034.length co39 (t1028.length : Int) (of_decide_eq_true (by first | (with_reducible assumption) | assumption)) q42 hroom42
                        have hr42 := Kd.C_take (m := t1028.length) hC42 (by omega)
                        have hy42 : y1040.length = t1028.length := (by rw [Ny1040.out, List.length_take]; omega)
                        rw [← Ny1040.out] at hr42
                        (try rw [Int.toNat_natCast] at hcut42)
                        rw [← hy42] at hcut42
                        (try rw [show ((y1040.length : Nat) : Int) = ((t1028.length : Nat) : Int) from by omega] at hcut42)
                        have HR1043 := Aside0.mk hr42
                        have HC1043 := Aside0.mk (show y1040.length ≤ co39 from by omega)
                        clear hr42 hC42 hroom42 hi042 hsz42
                        have KY42 := Aside0.mk hy42
                        clear hy42
                        have KL42 := Aside0.mk (show t1028.length ≤ t1034.length from by omega)
                        replace q42 := eq_true q42
                        go_wp2_with (first | (go_at_call 69; (with_reducible refine (bonsairef04_Same.calls kj2 _ _ y1040 _ _ t1028 false _ ?side1 ?side2 ?side3 ?side4 A28.out).mono ?_); (case side1 => repeat (first | exact (by repeat (first | (with_reducible exact HR1043.out) | (with_reducible refine Kd.C_alloc ?_ _) | (with_reducible refine Kd.C_drewN ?_ _) | (with_reducible refine Kd.C_drew ?_) | exact HR1043.out)) | (with_reducible refine Kd.C_alloc ?_ _) | (with_reducible refine Kd.C_drewN ?_ _) | (with_reducible refine Kd.C_drew ?_))); (case side2 => exact HC1043.out); (case side3 => repeat (first | exact (Kd.R_reads' HO1031.out).2.2 | (with_reducible refine Kd.C_alloc ?_ _) | (with_reducible refine Kd.C_drewN ?_ _) | (with_reducible refine Kd.C_drew ?_))); (case side4 => exact (Kd.R_reads' HO1031.out).2.1); rintro e w' ⟨rfl, ⟨nd, rfl⟩⟩; (try first | exact ⟨rfl, _, World.drewN_drewN _ _ _⟩ | exact ⟨rfl, _, Eq.trans (World.drewN_drewN _ _ _) (congrArg (World.drewN _) (Nat.add_assoc _ _ _))⟩)))
                        repeat (go_quiet (first | (go_at_call 69; (with_reducible refine (bonsairef04_Same.calls kj2 _ _ y1040 _ _ t1028 false _ ?side1 ?side2 ?side3 ?side4 A28.out).mono ?_); (case side1 => repeat (first | exact (by repeat (first | (with_reducible exact HR1043.out) | (with_reducible refine Kd.C_alloc ?_ _) | (with_reducible refine Kd.C_drewN ?_ _) | (with_reducible refine Kd.C_drew ?_) | exact HR1043.out)) | (with_reducible refine Kd.C_alloc ?_ _) | (with_reducible refine Kd.C_drewN ?_ _) | (with_reducible refine Kd.C_drew ?_))); (case side2 => exact HC1043.out); (case side3 => repeat (first | exact (Kd.R_reads' HO1031.out).2.2 | (with_reducible refine Kd.C_alloc ?_ _) | (with_reducible refine Kd.C_drewN ?_ _) | (with_reducible refine Kd.C_drew ?_))); (case side4 => exact (Kd.R_reads' HO1031.out).2.1); rintro e w' ⟨rfl, ⟨nd, rfl⟩⟩; (try first | exact ⟨rfl, _, World.drewN_drewN _ _ _⟩ | exact ⟨rfl, _, Eq.trans (World.drewN_drewN _ _ _) (congrArg (World.drewN _) (Nat.add_assoc _ _ _))⟩))); try go_wp2_with (first | (go_at_call 69; (with_reducible refine (bonsairef04_Same.calls kj2 _ _ y1040 _ _ t1028 false _ ?side1 ?side2 ?side3 ?side4 A28.out).mono ?_); (case side1 => repeat (first | exact (by repeat (first | (with_reducible exact HR1043.out) | (with_reducible refine Kd.C_alloc ?_ _) | (with_reducible refine Kd.C_drewN ?_ _) | (with_reducible refine Kd.C_drew ?_) | exact HR1043.out)) | (with_reducible refine Kd.C_alloc ?_ _) | (with_reducible refine Kd.C_drewN ?_ _) | (with_reducible refine Kd.C_drew ?_))); (case side2 => exact HC1043.out); (case side3 => repeat (first | exact (Kd.R_reads' HO1031.out).2.2 | (with_reducible refine Kd.C_alloc ?_ _) | (with_reducible refine Kd.C_drewN ?_ _) | (with_reducible refine Kd.C_drew ?_))); (case side4 => exact (Kd.R_reads' HO1031.out).2.1); rintro e w' ⟨rfl, ⟨nd, rfl⟩⟩; (try first | exact ⟨rfl, _, World.drewN_drewN _ _ _⟩ | exact ⟨rfl, _, Eq.trans (World.drewN_drewN _ _ _) (congrArg (World.drewN _) (Nat.add_assoc _ _ _))⟩))))
                        go_meet
                        case rel => exact ⟨_, (true), (by first | rfl | (simp; done) | (simp [*]; done)), H', ⟨by have := HJ2.out; first | omega | exact Nat.le_refl _⟩, ⟨by (with_reducible repeat (first | apply Kd.R_alloc | apply Kd.R_drewN | apply Kd.R_drew)); exact Kd.R_mono HO1027.out (fun _ hk => ⟨hk.1.2, hk.2⟩)⟩, ⟨by (with_reducible repeat (first | apply Kd.R_alloc | apply Kd.R_drewN | apply Kd.R_drew)); exact Kd.R_mono HO1031.out (fun _ hk => ⟨hk.1.2, hk.2⟩)⟩, ⟨by (with_reducible repeat (first | apply Kd.R_alloc | apply Kd.R_drewN | apply Kd.R_drew)); exact Kd.R_mono HO1037.out (fun _ hk => ⟨hk.1.2, hk.2⟩)⟩, ⟨by (with_reducible repeat (first | apply Kd.R_alloc | apply Kd.R_drewN | apply Kd.R_drew)); exact Kd.R_mono HO1039.out (fun _ hk => trivial)⟩, ⟨by repeat (first | (with_reducible first | exact HB.out | apply below_alloc | apply pw_below_drewN | apply below_drew1) | exact HB.out)⟩⟩
                    · rw [if_neg c27] at H
                      exact absurd H (by simp)
                  · rw [if_neg c26] at H
                    exact absurd H (by simp)
                · rw [if_neg c25] at H
                  have c25b0 : ((t1035.length : Int) == (y1025.length : Int)) = false := beq_eq_false_iff_ne.mpr c25
                  have c25b1 : ((t1035.length : Int) != (y1025.length : Int)) = true := bne_iff_ne.mpr c25
                  have c25b2 : (t1035.length == y1025.length) = false := by first | simpa using c25 | (simp at c25 ⊢; omega)
                  have H' := Aside0.mk H
                  clear H
                  obtain ⟨Ao43, co43, eo43⟩ := Kd.R_slice HO1037.out
                  subst eo43
                  obtain ⟨Ao44, co44, eo44⟩ := Kd.R_slice HO1031.out
                  subst eo44
                  obtain ⟨Ao45, co45, eo45⟩ := Kd.R_slice HO1039.out
                  subst eo45
                  go_wp2
                  repeat (go_quiet (fail); try go_wp2)
                  go_meet
                  case rel => exact ⟨_, (true), (by first | rfl | (simp; done) | (simp [*]; done)), H', ⟨by have := HJ2.out; first | omega | exact Nat.le_refl _⟩, ⟨by (with_reducible repeat (first | apply Kd.R_alloc | apply Kd.R_drewN | apply Kd.R_drew)); exact Kd.R_mono HO1027.out (fun _ hk => ⟨hk.1.2, hk.2⟩)⟩, ⟨by (with_reducible repeat (first | apply Kd.R_alloc | apply Kd.R_drewN | apply Kd.R_drew)); exact Kd.R_mono HO1031.out (fun _ hk => ⟨hk.1.2, hk.2⟩)⟩, ⟨by (with_reducible repeat (first | apply Kd.R_alloc | apply Kd.R_drewN | apply Kd.R_drew)); exact Kd.R_mono HO1037.out (fun _ hk => ⟨hk.1.2, hk.2⟩)⟩, ⟨by (with_reducible repeat (first | apply Kd.R_alloc | apply Kd.R_drewN | apply Kd.R_drew)); exact Kd.R_mono HO1039.out (fun _ hk => trivial)⟩, ⟨by repeat (first | (with_reducible first | exact HB.out | apply below_alloc | apply pw_below_drewN | apply below_drew1) | exact HB.out)⟩⟩
            case rest =>
              clear HC14
              try clear c1
              try clear c2
              try clear p2
              try clear c3
              try clear q3
              try clear q4
              try clear c5
              try clear c7
              try clear c10
              try clear c11
              try clear c22
              try clear c22b0
              try clear c22b1
              try clear c23
              try clear c25
              try clear c25b0
              try clear c25b1
              try clear c25b2
              try clear c26
              try clear c26b0
              try clear c26b1
              try clear c27
              try clear c27b0
              try clear c27b1
              try clear c29
              try clear c30
              try clear c30b0
              try clear c30b1
              try clear c31
              try clear c31b0
              try clear c31b1
              try clear q36
              try clear q37
              try clear q42
              try clear p2
              try clear q36
              try clear q37
              try clear q42
              obtain ⟨kq, x69_13, rfl, HA, HJ13, HO_5, HO_6, HO_8, HO_9, HB⟩ := hcut
              cases kq with
              | zero => exact absurd HA.out (by simp [bonsailaw08_DictJoins.j1])
              | succ kj13 =>
                have H := HA.out
                clear HA
                simp only [bonsailaw08_DictJoins.j1] at H
                by_cases c46 : x69_13 = true
                · subst c46
                  have H1 : (none) = some r := by rw [if_pos rfl] at H; exact H
                  clear H
                  have H := H1
                  clear H1
                  exact absurd H (by simp)
                · replace c46 := Bool.eq_false_iff.mpr c46
                  subst c46
                  have H1 : ((dict_Pick.f t1034 t1035).bind fun bt1050 => (if bt1050.2 = true then ((bonsairef04_Same.f kj13 bt1050.1 y1025).bind fun t1054 => (bonsailaw08_DictJoins.j2 kj13 l0 l1 t1028 t1034 (!t1054))) else (bonsailaw08_DictJoins.j2 kj13 l0 l1 t1028 t1034 true))) = some r := by rw [if_neg (show ¬ (false = true) by decide)] at H; exact H
                  clear H
                  have H := H1
                  clear H1
                  replace H := Option.bind_eq_some_iff.mp H
                  obtain ⟨⟨t1050, t1051⟩, A470, H⟩ := H
                  replace H : (if t1051 = true then ((bonsairef04_Same.f kj13 t1050 y1025).bind fun t1054 => (bonsailaw08_DictJoins.j2 kj13 l0 l1 t1028 t1034 (!t1054))) else (bonsailaw08_DictJoins.j2 kj13 l0 l1 t1028 t1034 true)) = some r := H
                  have A47 := Aside0.mk A470
                  clear A470
                  have HC48 := Aside0.mk H
                  clear H
                  obtain ⟨Ao49, co49, eo49⟩ := Kd.R_slice HO_8.out
                  subst eo49
                  obtain ⟨Ao50, co50, eo50⟩ := Kd.R_slice HO_9.out
                  subst eo50
                  go_upto_region 9 with (first | (go_at_call 67; (with_reducible refine (dict_Pick.calls _ _ t1034 _ _ t1035 t1050 t1051 _ ?side1 ?side2 ?side3 ?side4 A47.out).mono ?_); (case side1 => repeat (first | exact (Kd.R_reads' HO_8.out).2.2 | (with_reducible refine Kd.C_alloc ?_ _) | (with_reducible refine Kd.C_drewN ?_ _) | (with_reducible refine Kd.C_drew ?_))); (case side2 => exact (Kd.R_reads' HO_8.out).2.1); (case side3 => repeat (first | exact (Kd.R_reads' HO_9.out).2.2 | (with_reducible refine Kd.C_alloc ?_ _) | (with_reducible refine Kd.C_drewN ?_ _) | (with_reducible refine Kd.C_drew ?_))); (case side4 => exact (Kd.R_reads' HO_9.out).2.1); rintro e w51 ⟨v1052, rfl, ho0, hb⟩; have n0_ := Aside0.mk (Kd.R_elder' (by (with_reducible repeat (first | apply Kd.R_alloc | apply Kd.R_drewN | apply Kd.R_drew)); exact HO_5.out) (Kd.R_base ho0) hb); have n1_ := Aside0.mk (Kd.R_elder' (by (with_reducible repeat (first | apply Kd.R_alloc | apply Kd.R_drewN | apply Kd.R_drew)); exact HO_6.out) (Kd.R_base ho0) hb); have n2_ := Aside0.mk (Kd.R_elder' (by (with_reducible repeat (first | apply Kd.R_alloc | apply Kd.R_drewN | apply Kd.R_drew)); exact HO_8.out) (Kd.R_base ho0) hb); have n3_ := Aside0.mk (Kd.R_below (by (with_reducible repeat (first | apply Kd.R_alloc | apply Kd.R_drewN | apply Kd.R_drew)); exact HO_9.out) hb); have n4_ := Aside0.mk (Kd.R_lower (Kd.R_new' (Kd.R_new' (Kd.R_new' ho0 (Kd.R_lt (by (with_reducible repeat (first | apply Kd.R_alloc | apply Kd.R_drewN | apply Kd.R_drew)); exact HO_5.out))) (Kd.R_lt (by (with_reducible repeat (first | apply Kd.R_alloc | apply Kd.R_drewN | apply Kd.R_drew)); exact HO_6.out))) (Kd.R_lt (by (with_reducible repeat (first | apply Kd.R_alloc | apply Kd.R_drewN | apply Kd.R_drew)); exact HO_8.out))) (below_size (by repeat (first | (with_reducible first | exact HB.out | apply below_alloc | apply pw_below_drewN | apply below_drew1) | exact HB.out)))); have n5_ := Aside0.mk (below_step (by repeat (first | (with_reducible first | exact HB.out | apply below_alloc | apply pw_below_drewN | apply below_drew1) | exact HB.out)) hb); clear HO_5; clear HO_6; clear HO_8; clear HO_9; clear HB; have HO_5 := n0_; have HO_6 := n1_; have HO_8 := n2_; have HO_9 := n3_; have HO1053 := n4_; have HB := n5_; clear n0_ n1_ n2_ n3_ n4_ n5_; (try clear hb); (try clear hb2); (try clear hk); (try clear hi); (try clear ho0)))
                  repeat (go_quiet (first | (go_at_call 67; (with_reducible refine (dict_Pick.calls _ _ t1034 _ _ t1035 t1050 t1051 _ ?side1 ?side2 ?side3 ?side4 A47.out).mono ?_); (case side1 => repeat (first | exact (Kd.R_reads' HO_8.out).2.2 | (with_reducible refine Kd.C_alloc ?_ _) | (with_reducible refine Kd.C_drewN ?_ _) | (with_reducible refine Kd.C_drew ?_))); (case side2 => exact (Kd.R_reads' HO_8.out).2.1); (case side3 => repeat (first | exact (Kd.R_reads' HO_9.out).2.2 | (with_reducible refine Kd.C_alloc ?_ _) | (with_reducible refine Kd.C_drewN ?_ _) | (with_reducible refine Kd.C_drew ?_))); (case side4 => exact (Kd.R_reads' HO_9.out).2.1); rintro e w51 ⟨v1052, rfl, ho0, hb⟩; have n0_ := Aside0.mk (Kd.R_elder' (by (with_reducible repeat (first | apply Kd.R_alloc | apply Kd.R_drewN | apply Kd.R_drew)); exact HO_5.out) (Kd.R_base ho0) hb); have n1_ := Aside0.mk (Kd.R_elder' (by (with_reducible repeat (first | apply Kd.R_alloc | apply Kd.R_drewN | apply Kd.R_drew)); exact HO_6.out) (Kd.R_base ho0) hb); have n2_ := Aside0.mk (Kd.R_elder' (by (with_reducible repeat (first | apply Kd.R_alloc | apply Kd.R_drewN | apply Kd.R_drew)); exact HO_8.out) (Kd.R_base ho0) hb); have n3_ := Aside0.mk (Kd.R_below (by (with_reducible repeat (first | apply Kd.R_alloc | apply Kd.R_drewN | apply Kd.R_drew)); exact HO_9.out) hb); have n4_ := Aside0.mk (Kd.R_lower (Kd.R_new' (Kd.R_new' (Kd.R_new' ho0 (Kd.R_lt (by (with_reducible repeat (first | apply Kd.R_alloc | apply Kd.R_drewN | apply Kd.R_drew)); exact HO_5.out))) (Kd.R_lt (by (with_reducible repeat (first | apply Kd.R_alloc | apply Kd.R_drewN | apply Kd.R_drew)); exact HO_6.out))) (Kd.R_lt (by (with_reducible repeat (first | apply Kd.R_alloc | apply Kd.R_drewN | apply Kd.R_drew)); exact HO_8.out))) (below_size (by repeat (first | (with_reducible first | exact HB.out | apply below_alloc | apply pw_below_drewN | apply below_drew1) | exact HB.out)))); have n5_ := Aside0.mk (below_step (by repeat (first | (with_reducible first | exact HB.out | apply below_alloc | apply pw_below_drewN | apply below_drew1) | exact HB.out)) hb); clear HO_5; clear HO_6; clear HO_8; clear HO_9; clear HB; have HO_5 := n0_; have HO_6 := n1_; have HO_8 := n2_; have HO_9 := n3_; have HO1053 := n4_; have HB := n5_; clear n0_ n1_ n2_ n3_ n4_ n5_; (try clear hb); (try clear hb2); (try clear hk); (try clear hi); (try clear ho0))); go_upto_region 9 with (first | (go_at_call 67; (with_reducible refine (dict_Pick.calls _ _ t1034 _ _ t1035 t1050 t1051 _ ?side1 ?side2 ?side3 ?side4 A47.out).mono ?_); (case side1 => repeat (first | exact (Kd.R_reads' HO_8.out).2.2 | (with_reducible refine Kd.C_alloc ?_ _) | (with_reducible refine Kd.C_drewN ?_ _) | (with_reducible refine Kd.C_drew ?_))); (case side2 => exact (Kd.R_reads' HO_8.out).2.1); (case side3 => repeat (first | exact (Kd.R_reads' HO_9.out).2.2 | (with_reducible refine Kd.C_alloc ?_ _) | (with_reducible refine Kd.C_drewN ?_ _) | (with_reducible refine Kd.C_drew ?_))); (case side4 => exact (Kd.R_reads' HO_9.out).2.1); rintro e w51 ⟨v1052, rfl, ho0, hb⟩; have n0_ := Aside0.mk (Kd.R_elder' (by (with_reducible repeat (first | apply Kd.R_alloc | apply Kd.R_drewN | apply Kd.R_drew)); exact HO_5.out) (Kd.R_base ho0) hb); have n1_ := Aside0.mk (Kd.R_elder' (by (with_reducible repeat (first | apply Kd.R_alloc | apply Kd.R_drewN | apply Kd.R_drew)); exact HO_6.out) (Kd.R_base ho0) hb); have n2_ := Aside0.mk (Kd.R_elder' (by (with_reducible repeat (first | apply Kd.R_alloc | apply Kd.R_drewN | apply Kd.R_drew)); exact HO_8.out) (Kd.R_base ho0) hb); have n3_ := Aside0.mk (Kd.R_below (by (with_reducible repeat (first | apply Kd.R_alloc | apply Kd.R_drewN | apply Kd.R_drew)); exact HO_9.out) hb); have n4_ := Aside0.mk (Kd.R_lower (Kd.R_new' (Kd.R_new' (Kd.R_new' ho0 (Kd.R_lt (by (with_reducible repeat (first | apply Kd.R_alloc | apply Kd.R_drewN | apply Kd.R_drew)); exact HO_5.out))) (Kd.R_lt (by (with_reducible repeat (first | apply Kd.R_alloc | apply Kd.R_drewN | apply Kd.R_drew)); exact HO_6.out))) (Kd.R_lt (by (with_reducible repeat (first | apply Kd.R_alloc | apply Kd.R_drewN | apply Kd.R_drew)); exact HO_8.out))) (below_size (by repeat (first | (with_reducible first | exact HB.out | apply below_alloc | apply pw_below_drewN | apply below_drew1) | exact HB.out)))); have n5_ := Aside0.mk (below_step (by repeat (first | (with_reducible first | exact HB.out | apply below_alloc | apply pw_below_drewN | apply below_drew1) | exact HB.out)) hb); clear HO_5; clear HO_6; clear HO_8; clear HO_9; clear HB; have HO_5 := n0_; have HO_6 := n1_; have HO_8 := n2_; have HO_9 := n3_; have HO1053 := n4_; have HB := n5_; clear n0_ n1_ n2_ n3_ n4_ n5_; (try clear hb); (try clear hb2); (try clear hk); (try clear hi); (try clear ho0))))
                  (try simp only [Act.put, List.setIfInBounds_toArray, List.set_cons_zero, List.set_cons_succ])
                  go_cut [83] (fun v83 wc => ∃ (kq : Nat) (x83_47 : Bool), v83 = .bool x83_47 ∧ Aside0 (bonsailaw08_DictJoins.j2 kq l0 l1 t1028 t1034 x83_47 = some r) ∧ Aside0 (kq ≤ kj13) ∧ Aside0 (Kd.R Kd.string 9 wc w.heap.size (fun k_ => some k_ ≠ ((.slice Ao49 t1034.length co49) : Value).ownBlock) v1030 t1028) ∧ Aside0 (Kd.R Kd.string 9 wc w.heap.size (fun k_ => some k_ ≠ (v1030 : Value).ownBlock) (.slice Ao49 t1034.length co49) t1034) ∧ Aside0 (Below w.heap.size w wc))
                  case first =>
                    have H := HC48.out
                    clear HC48
                    by_cases c52 : t1051 = true
                    · subst c52
                      have H1 : ((bonsairef04_Same.f kj13 t1050 y1025).bind fun t1054 => (bonsailaw08_DictJoins.j2 kj13 l0 l1 t1028 t1034 (!t1054))) = some r := by rw [if_pos rfl] at H; exact H
                      clear H
                      have H := H1
                      clear H1
                      replace H := Option.bind_eq_some_iff.mp H
                      obtain ⟨t1054, A530, H⟩ := H
                      replace H : (bonsailaw08_DictJoins.j2 kj13 l0 l1 t1028 t1034 (!t1054)) = some r := H
                      have A53 := Aside0.mk A530
                      clear A530
                      have H' := Aside0.mk H
                      clear H
                      obtain ⟨Ao54, co54, eo54⟩ := Kd.R_slice HO1053.out
                      subst eo54
                      go_wp2_with (first | (go_at_call 69; (with_reducible refine (bonsairef04_Same.calls kj13 _ _ t1050 _ _ y1025 t1054 _ ?side1 ?side2 ?side3 ?side4 A53.out).mono ?_); (case side1 => repeat (first | exact (Kd.R_reads' HO1053.out).2.2 | (with_reducible refine Kd.C_alloc ?_ _) | (with_reducible refine Kd.C_drewN ?_ _) | (with_reducible refine Kd.C_drew ?_))); (case side2 => exact (Kd.R_reads' HO1053.out).2.1); (case side3 => repeat (first | exact (Kd.R_reads' HO_5.out).2.2 | (with_reducible refine Kd.C_alloc ?_ _) | (with_reducible refine Kd.C_drewN ?_ _) | (with_reducible refine Kd.C_drew ?_))); (case side4 => exact (Kd.R_reads' HO_5.out).2.1); rintro e w' ⟨rfl, ⟨nd, rfl⟩⟩; (try first | exact ⟨rfl, _, World.drewN_drewN _ _ _⟩ | exact ⟨rfl, _, Eq.trans (World.drewN_drewN _ _ _) (congrArg (World.drewN _) (Nat.add_assoc _ _ _))⟩)))
                      repeat (go_quiet (first | (go_at_call 69; (with_reducible refine (bonsairef04_Same.calls kj13 _ _ t1050 _ _ y1025 t1054 _ ?side1 ?side2 ?side3 ?side4 A53.out).mono ?_); (case side1 => repeat (first | exact (Kd.R_reads' HO1053.out).2.2 | (with_reducible refine Kd.C_alloc ?_ _) | (with_reducible refine Kd.C_drewN ?_ _) | (with_reducible refine Kd.C_drew ?_))); (case side2 => exact (Kd.R_reads' HO1053.out).2.1); (case side3 => repeat (first | exact (Kd.R_reads' HO_5.out).2.2 | (with_reducible refine Kd.C_alloc ?_ _) | (with_reducible refine Kd.C_drewN ?_ _) | (with_reducible refine Kd.C_drew ?_))); (case side4 => exact (Kd.R_reads' HO_5.out).2.1); rintro e w' ⟨rfl, ⟨nd, rfl⟩⟩; (try first | exact ⟨rfl, _, World.drewN_drewN _ _ _⟩ | exact ⟨rfl, _, Eq.trans (World.drewN_drewN _ _ _) (congrArg (World.drewN _) (Nat.add_assoc _ _ _))⟩))); try go_wp2_with (first | (go_at_call 69; (with_reducible refine (bonsairef04_Same.calls kj13 _ _ t1050 _ _ y1025 t1054 _ ?side1 ?side2 ?side3 ?side4 A53.out).mono ?_); (case side1 => repeat (first | exact (Kd.R_reads' HO1053.out).2.2 | (with_reducible refine Kd.C_alloc ?_ _) | (with_reducible refine Kd.C_drewN ?_ _) | (with_reducible refine Kd.C_drew ?_))); (case side2 => exact (Kd.R_reads' HO1053.out).2.1); (case side3 => repeat (first | exact (Kd.R_reads' HO_5.out).2.2 | (with_reducible refine Kd.C_alloc ?_ _) | (with_reducible refine Kd.C_drewN ?_ _) | (with_reducible refine Kd.C_drew ?_))); (case side4 => exact (Kd.R_reads' HO_5.out).2.1); rintro e w' ⟨rfl, ⟨nd, rfl⟩⟩; (try first | exact ⟨rfl, _, World.drewN_drewN _ _ _⟩ | exact ⟨rfl, _, Eq.trans (World.drewN_drewN _ _ _) (congrArg (World.drewN _) (Nat.add_assoc _ _ _))⟩))))
                      go_meet
                      case rel => exact ⟨_, (!t1054), (by first | rfl | (simp; done) | (simp [*]; done)), H', ⟨by have := HJ2.out; have := HJ13.out; first | omega | exact Nat.le_refl _⟩, ⟨by (with_reducible repeat (first | apply Kd.R_alloc | apply Kd.R_drewN | apply Kd.R_drew)); exact Kd.R_mono HO_6.out (fun _ hk => hk.1.2)⟩, ⟨by (with_reducible repeat (first | apply Kd.R_alloc | apply Kd.R_drewN | apply Kd.R_drew)); exact Kd.R_mono HO_8.out (fun _ hk => hk.1.2)⟩, ⟨by repeat (first | (with_reducible first | exact HB.out | apply below_alloc | apply pw_below_drewN | apply below_drew1) | exact HB.out)⟩⟩
                    · replace c52 := Bool.eq_false_iff.mpr c52
                      subst c52
                      have H1 : (bonsailaw08_DictJoins.j2 kj13 l0 l1 t1028 t1034 true) = some r := by rw [if_neg (show ¬ (false = true) by decide)] at H; exact H
                      clear H
                      have H := H1
                      clear H1
                      have H' := Aside0.mk H
                      clear H
                      go_wp2
                      repeat (go_quiet (fail); try go_wp2)
                      go_meet
                      case rel => exact ⟨_, (true), (by first | rfl | (simp; done) | (simp [*]; done)), H', ⟨by have := HJ2.out; have := HJ13.out; first | omega | exact Nat.le_refl _⟩, ⟨by (with_reducible repeat (first | apply Kd.R_alloc | apply Kd.R_drewN | apply Kd.R_drew)); exact Kd.R_mono HO_6.out (fun _ hk => hk.1.2)⟩, ⟨by (with_reducible repeat (first | apply Kd.R_alloc | apply Kd.R_drewN | apply Kd.R_drew)); exact Kd.R_mono HO_8.out (fun _ hk => hk.1.2)⟩, ⟨by repeat (first | (with_reducible first | exact HB.out | apply below_alloc | apply pw_below_drewN | apply below_drew1) | exact HB.out)⟩⟩
                  case rest =>
                    clear HC48
                    try clear c1
                    try clear c2
                    try clear p2
                    try clear c3
                    try clear q3
                    try clear c4
                    try clear q4
                    try clear c5
                    try clear c7
                    try clear c10
                    try clear c11
                    try clear c22
                    try clear c22b0
                    try clear c22b1
                    try clear c23
                    try clear c25
                    try clear c25b0
                    try clear c25b1
                    try clear c25b2
                    try clear c26
                    try clear c26b0
                    try clear c26b1
                    try clear c27
                    try clear c27b0
                    try clear c27b1
                    try clear c29
                    try clear c30
                    try clear c30b0
                    try clear c30b1
                    try clear c31
                    try clear c31b0
                    try clear c31b1
                    try clear q36
                    try clear q37
                    try clear q42
                    try clear c46
                    try clear c52
                    try clear p2
                    try clear q3
                    try clear q36
                    try clear q37
                    try clear q4
                    try clear q42
                    obtain ⟨kq, x83_47, rfl, HA, HJ47, HO_6, HO_8, HB⟩ := hcut
                    cases kq with
                    | zero => exact absurd HA.out (by simp [bonsailaw08_DictJoins.j2])
                    | succ kj47 =>
                      have H := HA.out
                      clear HA
                      simp only [bonsailaw08_DictJoins.j2] at H
                      by_cases c55 : x83_47 = true
                      · subst c55
                        have H1 : (none) = some r := by rw [if_pos rfl] at H; exact H
                        clear H
                        have H := H1
                        clear H1
                        exact absurd H (by simp)
                      · replace c55 := Bool.eq_false_iff.mpr c55
                        subst c55
                        have H1 : (bonsailaw08_DictJoins.l0 kj47 l0 l1 t1034 (t1028.length : Int)) = some r := by rw [if_neg (show ¬ (false = true) by decide)] at H; exact H
                        clear H
                        have H := H1
                        clear H1
                        have H' := Aside0.mk H
                        clear H
                        obtain ⟨Ao56, co56, eo56⟩ := Kd.R_slice HO_6.out
                        subst eo56
                        go_wp2
                        repeat (go_quiet (fail); try go_wp2)
                        go_loopg [12] kj47 (fun kq v12 w' => ∃ (x12_4 : Int), v12 = .int .i64 x12_4 ∧ Aside0 (bonsailaw08_DictJoins.l0 kq l0 l1 t1034 x12_4 = some r) ∧ Aside0 (kq ≤ kj47) ∧ Aside0 (Kd.R Kd.string 9 w' w.heap.size (fun _ => True) (.slice Ao49 t1034.length co49) t1034) ∧ Aside0 (Below w.heap.size w w'))
                        case atStart => exact ⟨((t1028.length : Int)), (by first | rfl | (simp; done) | (simp [*]; done)), H', ⟨Nat.le_refl _⟩, ⟨by (with_reducible repeat (first | apply Kd.R_alloc | apply Kd.R_drewN | apply Kd.R_drew)); exact Kd.R_mono HO_8.out (fun _ hk => trivial)⟩, ⟨by repeat (first | (with_reducible first | exact HB.out | apply below_alloc | apply pw_below_drewN | apply below_drew1) | exact HB.out)⟩⟩
                        case round =>
                          clear H'
                          try clear c1
                          try clear c2
                          try clear p2
                          try clear c3
                          try clear q3
                          try clear c4
                          try clear q4
                          try clear c5
                          try clear c7
                          try clear c10
                          try clear c11
                          try clear c22
                          try clear c22b0
                          try clear c22b1
                          try clear c23
                          try clear c25
                          try clear c25b0
                          try clear c25b1
                          try clear c25b2
                          try clear c26
                          try clear c26b0
                          try clear c26b1
                          try clear c27
                          try clear c27b0
                          try clear c27b1
                          try clear c29
                          try clear c30
                          try clear c30b0
                          try clear c30b1
                          try clear c31
                          try clear c31b0
                          try clear c31b1
                          try clear q36
                          try clear q37
                          try clear q42
                          try clear c46
                          try clear c52
                          try clear c55
                          try clear p2
                          try clear q3
                          try clear q36
                          try clear q37
                          try clear q4
                          try clear q42
                          obtain ⟨x12_4, rfl, HA, HK4, HO_8, HB⟩ := hrel
                          cases gk with
                          | zero => exact absurd HA.out (by simp [bonsailaw08_DictJoins.l0])
                          | succ k4 =>
                            have H := HA.out
                            clear HA
                            simp only [bonsailaw08_DictJoins.l0] at H
                            by_cases c57 : x12_4 < (t1034.length : Int)
                            · rw [if_pos c57] at H
                              have c57b0 : decide (x12_4 < (t1034.length : Int)) = true := decide_eq_true c57
                              clear c57
                              have H' := Aside0.mk H
                              clear H
                              go_wp2
                              repeat (go_quiet (fail); try go_wp2)
                              go_loopg [13, 14] k4 (fun kq v13 v14 w' => ∃ (x13_5 : Bool) (x14_5 : Int), v13 = .bool x13_5 ∧ v14 = .int .i64 x14_5 ∧ Aside0 (bonsailaw08_DictJoins.l1 kq l0 l1 t1034 x12_4 x13_5 x14_5 = some r) ∧ Aside0 (kq ≤ k4) ∧ Aside0 (Kd.R Kd.string 9 w' w.heap.size (fun _ => True) (.slice Ao49 t1034.length co49) t1034) ∧ Aside0 (Below w.heap.size w w'))
                              case atStart => exact ⟨(false), (0), (by first | rfl | (simp; done) | (simp [*]; done)), (by first | rfl | (simp; done) | (simp [*]; done)), H', ⟨Nat.le_refl _⟩, ⟨by (with_reducible repeat (first | apply Kd.R_alloc | apply Kd.R_drewN | apply Kd.R_drew)); exact HO_8.out⟩, ⟨by repeat (first | (with_reducible first | exact HB.out | apply below_alloc | apply pw_below_drewN | apply below_drew1) | exact HB.out)⟩⟩
                              case round =>
                                clear H'
                                try clear c1
                                try clear c2
                                try clear p2
                                try clear c3
                                try clear q3
                                try clear c4
                                try clear q4
                                try clear c5
                                try clear c7
                                try clear c10
                                try clear c11
                                try clear c22
                                try clear c22b0
                                try clear c22b1
                                try clear c23
                                try clear c25
                                try clear c25b0
                                try clear c25b1
                                try clear c25b2
                                try clear c26
                                try clear c26b0
                                try clear c26b1
                                try clear c27
                                try clear c27b0
                                try clear c27b1
                                try clear c29
                                try clear c30
                                try clear c30b0
                                try clear c30b1
                                try clear c31
                                try clear c31b0
                                try clear c31b1
                                try clear q36
                                try clear q37
                                try clear q42
                                try clear c46
                                try clear c52
                                try clear c55
                                try clear c57
                                try clear c57b0
                                try clear p2
                                try clear q3
                                try clear q36
                                try clear q37
                                try clear q4
                                try clear q42
                                obtain ⟨x13_5, x14_5, rfl, rfl, HA, HK5, HO_8, HB⟩ := hrel
                                cases gk with
                                | zero => exact absurd HA.out (by simp [bonsailaw08_DictJoins.l1])
                                | succ k5 =>
                                  have H := HA.out
                                  clear HA
                                  simp only [bonsailaw08_DictJoins.l1] at H
                                  by_cases c58 : x14_5 < (l1.length : Int)
                                  · rw [if_pos c58] at H
                                    have c58b0 : decide (x14_5 < (l1.length : Int)) = true := decide_eq_true c58
                                    clear c58
                                    by_cases c59 : x13_5 = true
                                    · subst c59
                                      have H1 : (bonsailaw08_DictJoins.l1 k5 l0 l1 t1034 x12_4 true (wrap64 (x14_5 + 1))) = some r := by rw [if_pos rfl] at H; exact H
                                      clear H
                                      have H := H1
                                      clear H1
                                      have H' := Aside0.mk H
                                      clear H
                                      go_wp2
                                      repeat (go_quiet (fail); try go_wp2)
                                      go_roundg k5
                                      case measure => have := HJ2.out; have := HJ13.out; have := HJ47.out; have := HK4.out; have := HK5.out; omega
                                      case rel => exact ⟨(true), (wrap64 (x14_5 + 1)), (by first | rfl | (simp; done) | (simp [*]; done)), (by first | rfl | (simp; done) | (simp [*]; done)), H', ⟨by have := HJ2.out; have := HJ13.out; have := HJ47.out; have := HK4.out; have := HK5.out; omega⟩, ⟨by (with_reducible repeat (first | apply Kd.R_alloc | apply Kd.R_drewN | apply Kd.R_drew)); exact HO_8.out⟩, ⟨by repeat (first | (with_reducible first | exact HB.out | apply below_alloc | apply pw_below_drewN | apply below_drew1) | exact HB.out)⟩⟩
                                    · replace c59 := Bool.eq_false_iff.mpr c59
                                      subst c59
                                      have H1 : (if 0 ≤ x14_5 then (if 0 ≤ x12_4 then (if x12_4 < (t1034.length : Int) then (bonsailaw08_DictJoins.l1 k5 l0 l1 t1034 x12_4 ((rdOf ByteArray.empty l1 x14_5).toList == (rdOf ByteArray.empty t1034 x12_4).toList) (wrap64 (x14_5 + 1))) else (none)) else (none)) else (none)) = some r := by rw [if_neg (show ¬ (false = true) by decide)] at H; exact H
                                      clear H
                                      have H := H1
                                      clear H1
                                      by_cases c60 : 0 ≤ x14_5
                                      · rw [if_pos c60] at H
                                        have c60b0 : decide (0 ≤ x14_5) = true := decide_eq_true c60
                                        clear c60
                                        by_cases c61 : 0 ≤ x12_4
                                        · rw [if_pos c61] at H
                                          have c61b0 : decide (0 ≤ x12_4) = true := decide_eq_true c61
                                          clear c61
                                          by_cases c62 : x12_4 < (t1034.length : Int)
                                          · rw [if_pos c62] at H
                                            have c62b0 : decide (x12_4 < (t1034.length : Int)) = true := decide_eq_true c62
                                            clear c62
                                            have H' := Aside0.mk H
                                            clear H
                                            have p1056 : 0 ≤ (x14_5 : Int) := of_decide_eq_true (by first | (with_reducible assumption) | assumption)
                                            have q1056 : x14_5 < (l1.length : Int) := of_decide_eq_true (by first | (with_reducible assumption) | assumption)
                                            obtain ⟨ad1056, e1056, hx1056_0⟩ := Kd.at_string HR1.out x14_5 p1056 q1056
                                            cases e1056
                                            replace hx1056_0 := (HB.out.cell (World.block_lt_of_cell? w _ hx1056_0)).trans hx1056_0
                                            replace p1056 := eq_true p1056
                                            replace q1056 := eq_true q1056
                                            have p1057 : 0 ≤ (x12_4 : Int) := of_decide_eq_true (by first | (with_reducible assumption) | assumption)
                                            have q1057 : x12_4 < (t1034.length : Int) := of_decide_eq_true (by first | (with_reducible assumption) | assumption)
                                            obtain ⟨ad1057, e1057, hx1057_0⟩ := Kd.at_string (Kd.R_reads' HO_8.out).2.2 x12_4 p1057 q1057
                                            cases e1057
                                            replace p1057 := eq_true p1057
                                            replace q1057 := eq_true q1057
                                            go_wp2
                                            repeat (go_quiet (fail); try go_wp2)
                                            go_roundg k5
                                            case measure => have := HJ2.out; have := HJ13.out; have := HJ47.out; have := HK4.out; have := HK5.out; omega
                                            case rel => exact ⟨(((rdOf ByteArray.empty l1 x14_5).toList == (rdOf ByteArray.empty t1034 x12_4).toList)), (wrap64 (x14_5 + 1)), (by first | rfl | (simp; done) | (simp [*]; done)), (by first | rfl | (simp; done) | (simp [*]; done)), H', ⟨by have := HJ2.out; have := HJ13.out; have := HJ47.out; have := HK4.out; have := HK5.out; omega⟩, ⟨by (with_reducible repeat (first | apply Kd.R_alloc | apply Kd.R_drewN | apply Kd.R_drew)); exact HO_8.out⟩, ⟨by repeat (first | (with_reducible first | exact HB.out | apply below_alloc | apply pw_below_drewN | apply below_drew1) | exact HB.out)⟩⟩
                                          · rw [if_neg c62] at H
                                            exact absurd H (by simp)
                                        · rw [if_neg c61] at H
                                          exact absurd H (by simp)
                                      · rw [if_neg c60] at H
                                        exact absurd H (by simp)
                                  · rw [if_neg c58] at H
                                    have c58b0 : decide (x14_5 < (l1.length : Int)) = false := decide_eq_false c58
                                    clear c58
                                    have H' := Aside0.mk H
                                    clear H
                                    go_wp2
                                    repeat (go_quiet (fail); try go_wp2)
                                    go_loopg [13, 15] k5 (fun kq v13 v15 w' => ∃ (x13_6 : Bool) (x15_6 : Int), v13 = .bool x13_6 ∧ v15 = .int .i64 x15_6 ∧ Aside0 (bonsailaw08_DictJoins.l2 kq l0 l1 t1034 x12_4 x13_6 x15_6 = some r) ∧ Aside0 (kq ≤ k5) ∧ Aside0 (Kd.R Kd.string 9 w' w.heap.size (fun _ => True) (.slice Ao49 t1034.length co49) t1034) ∧ Aside0 (Below w.heap.size w w'))
                                    case atStart => exact ⟨(x13_5), (0), (by first | rfl | (simp; done) | (simp [*]; done)), (by first | rfl | (simp; done) | (simp [*]; done)), H', ⟨Nat.le_refl _⟩, ⟨by (with_reducible repeat (first | apply Kd.R_alloc | apply Kd.R_drewN | apply Kd.R_drew)); exact HO_8.out⟩, ⟨by repeat (first | (with_reducible first | exact HB.out | apply below_alloc | apply pw_below_drewN | apply below_drew1) | exact HB.out)⟩⟩
                                    case round =>
                                      clear H'
                                      try clear c1
                                      try clear p1
                                      try clear q1
                                      try clear hx1
                                      try clear c2
                                      try clear p2
                                      try clear c3
                                      try clear q3
                                      try clear c4
                                      try clear q4
                                      try clear c5
                                      try clear c6
                                      try clear p6
                                      try clear c7
                                      try clear c10
                                      try clear p10
                                      try clear q10
                                      try clear hx10
                                      try clear c11
                                      try clear c22
                                      try clear c22b0
                                      try clear c22b1
                                      try clear c23
                                      try clear c25
                                      try clear c25b0
                                      try clear c25b1
                                      try clear c25b2
                                      try clear c26
                                      try clear c26b0
                                      try clear c26b1
                                      try clear c27
                                      try clear c27b0
                                      try clear c27b1
                                      try clear c29
                                      try clear c30
                                      try clear c30b0
                                      try clear c30b1
                                      try clear c31
                                      try clear c31b0
                                      try clear c31b1
                                      try clear q36
                                      try clear q37
                                      try clear q42
                                      try clear c46
                                      try clear c52
                                      try clear c55
                                      try clear c57
                                      try clear c57b0
                                      try clear c58
                                      try clear c58b0
                                      try clear c59
                                      try clear c60
                                      try clear c60b0
                                      try clear c61
                                      try clear c61b0
                                      try clear c62
                                      try clear c62b0
                                      try clear hx1056_0
                                      try clear hx1057_0
                                      try clear p1056
                                      try clear p1057
                                      try clear p2
                                      try clear q1056
                                      try clear q1057
                                      try clear q3
                                      try clear q36
                                      try clear q37
                                      try clear q4
                                      try clear q42
                                      obtain ⟨x13_6, x15_6, rfl, rfl, HA, HK6, HO_8, HB⟩ := hrel
                                      cases gk with
                                      | zero => exact absurd HA.out (by simp [bonsailaw08_DictJoins.l2])
                                      | succ k6 =>
                                        have H := HA.out
                                        clear HA
                                        simp only [bonsailaw08_DictJoins.l2] at H
                                        by_cases c63 : x15_6 < (l0.length : Int)
                                        · rw [if_pos c63] at H
                                          have c63b0 : decide (x15_6 < (l0.length : Int)) = true := decide_eq_true c63
                                          clear c63
                                          by_cases c64 : x13_6 = true
                                          · subst c64
                                            have H1 : (if 0 ≤ x15_6 then (if 0 ≤ x12_4 then (if x12_4 < (t1034.length : Int) then (bonsailaw08_DictJoins.l2 k6 l0 l1 t1034 x12_4 ((rdOf ByteArray.empty l0 x15_6).toList != (rdOf ByteArray.empty t1034 x12_4).toList) (wrap64 (x15_6 + 1))) else (none)) else (none)) else (none)) = some r := by rw [if_pos rfl] at H; exact H
                                            clear H
                                            have H := H1
                                            clear H1
                                            by_cases c65 : 0 ≤ x15_6
                                            · rw [if_pos c65] at H
                                              have c65b0 : decide (0 ≤ x15_6) = true := decide_eq_true c65
                                              clear c65
                                              by_cases c66 : 0 ≤ x12_4
                                              · rw [if_pos c66] at H
                                                have c66b0 : decide (0 ≤ x12_4) = true := decide_eq_true c66
                                                clear c66
                                                by_cases c67 : x12_4 < (t1034.length : Int)
                                                · rw [if_pos c67] at H
                                                  have c67b0 : decide (x12_4 < (t1034.length : Int)) = true := decide_eq_true c67
                                                  clear c67
                                                  have H' := Aside0.mk H
                                                  clear H
                                                  have p1058 : 0 ≤ (x15_6 : Int) := of_decide_eq_true (by first | (with_reducible assumption) | assumption)
                                                  have q1058 : x15_6 < (l0.length : Int) := of_decide_eq_true (by first | (with_reducible assumption) | assumption)
                                                  obtain ⟨ad1058, e1058, hx1058_0⟩ := Kd.at_string HR0.out x15_6 p1058 q1058
                                                  cases e1058
                                                  replace hx1058_0 := (HB.out.cell (World.block_lt_of_cell? w _ hx1058_0)).trans hx1058_0
                                                  replace p1058 := eq_true p1058
                                                  replace q1058 := eq_true q1058
                                                  have p1059 : 0 ≤ (x12_4 : Int) := of_decide_eq_true (by first | (with_reducible assumption) | assumption)
                                                  have q1059 : x12_4 < (t1034.length : Int) := of_decide_eq_true (by first | (with_reducible assumption) | assumption)
                                                  obtain ⟨ad1059, e1059, hx1059_0⟩ := Kd.at_string (Kd.R_reads' HO_8.out).2.2 x12_4 p1059 q1059
                                                  cases e1059
                                                  replace p1059 := eq_true p1059
                                                  replace q1059 := eq_true q1059
                                                  go_wp2
                                                  repeat (go_quiet (fail); try go_wp2)
                                                  go_roundg k6
                                                  case measure => have := HJ2.out; have := HJ13.out; have := HJ47.out; have := HK4.out; have := HK5.out; have := HK6.out; omega
                                                  case rel => exact ⟨(((rdOf ByteArray.empty l0 x15_6).toList != (rdOf ByteArray.empty t1034 x12_4).toList)), (wrap64 (x15_6 + 1)), (by first | rfl | (simp; done) | (simp [*]; done)), (by first | rfl | (simp; done) | (simp [*]; done)), H', ⟨by have := HJ2.out; have := HJ13.out; have := HJ47.out; have := HK4.out; have := HK5.out; have := HK6.out; omega⟩, ⟨by (with_reducible repeat (first | apply Kd.R_alloc | apply Kd.R_drewN | apply Kd.R_drew)); exact HO_8.out⟩, ⟨by repeat (first | (with_reducible first | exact HB.out | apply below_alloc | apply pw_below_drewN | apply below_drew1) | exact HB.out)⟩⟩
                                                · rw [if_neg c67] at H
                                                  exact absurd H (by simp)
                                              · rw [if_neg c66] at H
                                                exact absurd H (by simp)
                                            · rw [if_neg c65] at H
                                              exact absurd H (by simp)
                                          · replace c64 := Bool.eq_false_iff.mpr c64
                                            subst c64
                                            have H1 : (bonsailaw08_DictJoins.l2 k6 l0 l1 t1034 x12_4 false (wrap64 (x15_6 + 1))) = some r := by rw [if_neg (show ¬ (false = true) by decide)] at H; exact H
                                            clear H
                                            have H := H1
                                            clear H1
                                            have H' := Aside0.mk H
                                            clear H
                                            go_wp2
                                            repeat (go_quiet (fail); try go_wp2)
                                            go_roundg k6
                                            case measure => have := HJ2.out; have := HJ13.out; have := HJ47.out; have := HK4.out; have := HK5.out; have := HK6.out; omega
                                            case rel => exact ⟨(false), (wrap64 (x15_6 + 1)), (by first | rfl | (simp; done) | (simp [*]; done)), (by first | rfl | (simp; done) | (simp [*]; done)), H', ⟨by have := HJ2.out; have := HJ13.out; have := HJ47.out; have := HK4.out; have := HK5.out; have := HK6.out; omega⟩, ⟨by (with_reducible repeat (first | apply Kd.R_alloc | apply Kd.R_drewN | apply Kd.R_drew)); exact HO_8.out⟩, ⟨by repeat (first | (with_reducible first | exact HB.out | apply below_alloc | apply pw_below_drewN | apply below_drew1) | exact HB.out)⟩⟩
                                        · rw [if_neg c63] at H
                                          have c63b0 : decide (x15_6 < (l0.length : Int)) = false := decide_eq_false c63
                                          clear c63
                                          by_cases c68 : x13_6 = true
                                          · subst c68
                                            have H1 : (bonsailaw08_DictJoins.l0 k6 l0 l1 t1034 (wrap64 (x12_4 + 1))) = some r := by rw [if_pos rfl] at H; exact H
                                            clear H
                                            have H := H1
                                            clear H1
                                            have H' := Aside0.mk H
                                            clear H
                                            go_wp2
                                            repeat (go_quiet (fail); try go_wp2)
                                            go_roundg k6
                                            case measure => have := HJ2.out; have := HJ13.out; have := HJ47.out; have := HK4.out; have := HK5.out; have := HK6.out; omega
                                            case rel => exact ⟨(wrap64 (x12_4 + 1)), (by first | rfl | (simp; done) | (simp [*]; done)), H', ⟨by have := HJ2.out; have := HJ13.out; have := HJ47.out; have := HK4.out; have := HK5.out; have := HK6.out; omega⟩, ⟨by (with_reducible repeat (first | apply Kd.R_alloc | apply Kd.R_drewN | apply Kd.R_drew)); exact HO_8.out⟩, ⟨by repeat (first | (with_reducible first | exact HB.out | apply below_alloc | apply pw_below_drewN | apply below_drew1) | exact HB.out)⟩⟩
                                          · replace c68 := Bool.eq_false_iff.mpr c68
                                            subst c68
                                            have H1 : (none) = some r := by rw [if_neg (show ¬ (false = true) by decide)] at H; exact H
                                            clear H
                                            have H := H1
                                            clear H1
                                            exact absurd H (by simp)
                            · rw [if_neg c57] at H
                              have c57b0 : decide (x12_4 < (t1034.length : Int)) = false := decide_eq_false c57
                              clear c57
                              replace H := Option.bind_eq_some_iff.mp H
                              obtain ⟨t1055, A690, H⟩ := H
                              replace H : (some t1055) = some r := H
                              have A69 := Aside0.mk A690
                              clear A690
                              obtain rfl := Option.some.inj H
                              go_wp2_with (first | (go_at_call 64; (with_reducible refine (bonsailaw08_live.calls k4  t1055 _ A69.out).mono ?_); rintro e w70 ⟨rfl, hb⟩; have n0_ := Aside0.mk (Kd.R_below (by (with_reducible repeat (first | apply Kd.R_alloc | apply Kd.R_drewN | apply Kd.R_drew)); exact HO_8.out) hb); have n1_ := Aside0.mk (below_step (by repeat (first | (with_reducible first | exact HB.out | apply below_alloc | apply pw_below_drewN | apply below_drew1) | exact HB.out)) hb); clear HO_8; clear HB; have HO_8 := n0_; have HB := n1_; clear n0_ n1_; (try clear hb); (try clear hb2); (try clear hk); (try clear hi)))
                              repeat (go_quiet (first | (go_at_call 64; (with_reducible refine (bonsailaw08_live.calls k4  t1055 _ A69.out).mono ?_); rintro e w70 ⟨rfl, hb⟩; have n0_ := Aside0.mk (Kd.R_below (by (with_reducible repeat (first | apply Kd.R_alloc | apply Kd.R_drewN | apply Kd.R_drew)); exact HO_8.out) hb); have n1_ := Aside0.mk (below_step (by repeat (first | (with_reducible first | exact HB.out | apply below_alloc | apply pw_below_drewN | apply below_drew1) | exact HB.out)) hb); clear HO_8; clear HB; have HO_8 := n0_; have HB := n1_; clear n0_ n1_; (try clear hb); (try clear hb2); (try clear hk); (try clear hi))); try go_wp2_with (first | (go_at_call 64; (with_reducible refine (bonsailaw08_live.calls k4  t1055 _ A69.out).mono ?_); rintro e w70 ⟨rfl, hb⟩; have n0_ := Aside0.mk (Kd.R_below (by (with_reducible repeat (first | apply Kd.R_alloc | apply Kd.R_drewN | apply Kd.R_drew)); exact HO_8.out) hb); have n1_ := Aside0.mk (below_step (by repeat (first | (with_reducible first | exact HB.out | apply below_alloc | apply pw_below_drewN | apply below_drew1) | exact HB.out)) hb); clear HO_8; clear HB; have HO_8 := n0_; have HB := n1_; clear n0_ n1_; (try clear hb); (try clear hb2); (try clear hk); (try clear hi))))
                              go_ret
                              exact ⟨by first | rfl | (simp [errW_none, errW_some] <;> rfl) | (simp [*, errW_none, errW_some] <;> rfl), by repeat (first | (with_reducible first | exact HB.out | apply below_alloc | apply pw_below_drewN | apply below_drew1) | exact HB.out)⟩
          · rw [if_neg c11] at H
            exact absurd H (by simp)
        · rw [if_neg c10] at H
          exact absurd H (by simp)
end Go.Proofs.Ytbgjoiccehiglaa.Print
end
section
namespace Go.Proofs.Ytbgjoiccehiglaa.Pure
open Go.RowKit Go.Proofs.Ytbgjoiccehiglaa.Print Go.Proofs.YtbgjoiccehiglaaW.PrintWords Go.Proofs.YtbgjoiccehiglaaW.PrintLast Go.Proofs.YtbgjoiccehiglaaW.PrintMore Go.Proofs.Ytbgjoiccehiglaa.LibK Go.Proofs.Ytbgjoiccehiglaa.LibL Go.Proofs.Ytbgjoiccehiglaa.LibM Go.Proofs.Ytbgjoiccehiglaa.LibN Go.Proofs.Ytbgjoiccehiglaa.LibQ
theorem dj_l1 (x0 x1 W : List ByteArray) (h1 : x1.length ≤ 40) (i : Nat) (hi : i < W.length) (hW : W.length ≤ 80) : ∀ (d k j : Nat) (b : Bool), j + d = x1.length → d + 1 ≤ k → (b = true ∨ W[i] ∈ x1.drop j) →
    bonsailaw08_DictJoins.l1 k x0 x1 W (i : Int) b (j : Int) = bonsailaw08_DictJoins.l2 (k - (d + 1)) x0 x1 W (i : Int) true 0
  | 0, k, j, b, hd, hk, hb => by
    obtain ⟨k, rfl⟩ : ∃ k', k = k' + 1 := ⟨k - 1, by omega⟩
    have hbt : b = true := by
      rcases hb with hb | hb
      · exact hb
      · rw [List.drop_eq_nil_of_le (by omega)] at hb
        simp at hb
    unfold bonsailaw08_DictJoins.l1
    rw [if_neg (by omega), hbt]
    rfl
  | d + 1, k, j, b, hd, hk, hb => by
    obtain ⟨k, rfl⟩ : ∃ k', k = k' + 1 := ⟨k - 1, by omega⟩
    have hj : j < x1.length := by omega
    have hnext : (j : Int) + 1 = ((j + 1 : Nat) : Int) := by omega
    unfold bonsailaw08_DictJoins.l1
    rw [if_pos (by omega)]
    cases b with
    | true =>
      rw [if_pos rfl, LibV.w64 (by omega) (by omega), hnext, dj_l1 x0 x1 W h1 i hi hW d k (j + 1) true (by omega) (by omega) (.inl rfl)]
      congr 1
      omega
    | false =>
      rw [if_neg (by simp), if_pos (by omega), if_pos (by omega), if_pos (by omega), LibV.w64 (by omega) (by omega), hnext, rd_txt hj, rd_txt hi]
      have hb := hb.resolve_left (by simp)
      rw [List.drop_eq_getElem_cons hj] at hb
      rw [dj_l1 x0 x1 W h1 i hi hW d k (j + 1) _ (by omega) (by omega) (by
        rcases List.mem_cons.mp hb with h | h
        · exact .inl (by rw [h]; exact beq_self_eq_true _)
        · exact .inr h)]
      congr 1
      omega
theorem dj_l2 (x0 x1 W : List ByteArray) (h0 : x0.length ≤ 40) (i : Nat) (hi : i < W.length) (hW : W.length ≤ 80) (hn : W[i] ∉ x0) : ∀ (d k j : Nat), j + d = x0.length → d + 1 ≤ k →
    bonsailaw08_DictJoins.l2 k x0 x1 W (i : Int) true (j : Int) = bonsailaw08_DictJoins.l0 (k - (d + 1)) x0 x1 W ((i + 1 : Nat) : Int)
  | 0, k, j, hd, hk => by
    obtain ⟨k, rfl⟩ : ∃ k', k = k' + 1 := ⟨k - 1, by omega⟩
    unfold bonsailaw08_DictJoins.l2
    rw [if_neg (by omega), if_pos rfl, LibV.w64 (by omega) (by omega), show (i : Int) + 1 = ((i + 1 : Nat) : Int) by omega]
    rfl
  | d + 1, k, j, hd, hk => by
    obtain ⟨k, rfl⟩ : ∃ k', k = k' + 1 := ⟨k - 1, by omega⟩
    have hj : j < x0.length := by omega
    unfold bonsailaw08_DictJoins.l2
    rw [if_pos (by omega), if_pos rfl, if_pos (by omega), if_pos (by omega), if_pos (by omega), LibV.w64 (by omega) (by omega), show (j : Int) + 1 = ((j + 1 : Nat) : Int) by omega, rd_txt hj, rd_txt hi]
    have hne : (x0[j].toList != W[i].toList) = true := by
      rw [bne_iff_ne]
      intro e
      exact hn ((tl_eq _ _).mp e ▸ List.getElem_mem hj)
    rw [hne, dj_l2 x0 x1 W h0 i hi hW hn d k (j + 1) (by omega) (by omega)]
    congr 1
    omega
theorem dj_l0 (x0 x1 W : List ByteArray) (h0 : x0.length ≤ 40) (h1 : x1.length ≤ 40) (hW : W.length ≤ 80) (n : Nat) (hnew : ∀ (i : Nat) (h : i < W.length), n ≤ i → W[i] ∈ x1 ∧ W[i] ∉ x0) : ∀ (d k i : Nat), i + d = W.length → n ≤ i → 100 * d + 70 ≤ k →
    bonsailaw08_DictJoins.l0 k x0 x1 W (i : Int) = some true
  | 0, k, i, hd, hn, hk => by
    obtain ⟨k, rfl⟩ : ∃ k', k = k' + 1 := ⟨k - 1, by omega⟩
    unfold bonsailaw08_DictJoins.l0
    rw [if_neg (by omega), live08_at (by omega)]
    rfl
  | d + 1, k, i, hd, hn, hk => by
    obtain ⟨k, rfl⟩ : ∃ k', k = k' + 1 := ⟨k - 1, by omega⟩
    have hi : i < W.length := by omega
    obtain ⟨a1, a2⟩ := hnew i hi hn
    unfold bonsailaw08_DictJoins.l0
    rw [if_pos (by omega)]
    have e1 := dj_l1 x0 x1 W h1 i hi hW x1.length k 0 false (by omega) (by omega) (.inr (by simpa using a1))
    have e2 := dj_l2 x0 x1 W h0 i hi hW a2 x0.length (k - (x1.length + 1)) 0 (by omega) (by omega)
    simp only [Int.natCast_zero] at e1 e2
    rw [e1, e2]
    exact dj_l0 x0 x1 W h0 h1 hW n hnew d _ (i + 1) (by omega) (by omega) (by omega)
theorem DictJoins : ∀ (l0 : List ByteArray) (l1 : List ByteArray), l0.length ≤ maxLen → (∀ x ∈ l0, x.size ≤ maxLen) → l1.length ≤ maxLen → (∀ x ∈ l1, x.size ≤ maxLen) → ∃ k, bonsailaw08_DictJoins.f k l0 l1 = some true := by
  intro l m _ _ _ _
  refine ⟨9000 + 1, ?_⟩
  unfold bonsailaw08_DictJoins.f
  have yes : bonsailaw08_DictJoins.j0 (9000 + 1) l m true = some true := by
    simp only [bonsailaw08_DictJoins.j0, if_true]
    rw [live08_at (by omega)]; rfl
  rw [few_some l 40 60 (by omega) _ (by omega) (by omega), few_some m 40 60 (by omega) _ (by omega) (by omega)]
  simp only [Option.bind_some, decide_eq_true_eq]
  by_cases h1 : (l.length : Int) ≤ 40 ∧ ∀ x ∈ l, (x.size : Int) ≤ 60
  rotate_left
  · rw [if_neg h1]; exact yes
  rw [if_pos h1]
  by_cases h2 : (m.length : Int) ≤ 40 ∧ ∀ x ∈ m, (x.size : Int) ≤ 60
  rotate_left
  · rw [decide_eq_false h2]; exact yes
  rw [decide_eq_true h2]
  obtain ⟨h11, h12⟩ := h1
  obtain ⟨h21, h22⟩ := h2
  have hs : Short l := fun x hx => by have := h12 x hx; omega
  have hsm : Short (l ++ m) := fun x hx => by
    rcases List.mem_append.mp hx with h | h
    · have := h12 x h; omega
    · have := h22 x h; omega
  have hlm : (l ++ m).length = l.length + m.length := List.length_append
  have hg := dictG_len l [] []
  have hgm := dictG_len (l ++ m) [] []
  simp only [List.length_nil] at hg hgm
  obtain ⟨t, u, ht, hu⟩ := dict_pre m (dictG l [] []).1 (dictG l [] []).2
  rw [← dict_app] at ht hu
  have htk : (dictG (l ++ m) [] []).1.take (dictG l [] []).1.length = (dictG l [] []).1 := by rw [ht]; simp
  have huk : (dictG (l ++ m) [] []).2.take l.length = (dictG l [] []).2 := by
    rw [hu, List.take_append_of_le_length (by omega), List.take_of_length_le (by omega)]
  have hle : (dictG l [] []).1.length ≤ (dictG (l ++ m) [] []).1.length := by rw [ht]; simp
  simp only [bonsailaw08_DictJoins.j0, Bool.not_true, Bool.false_eq_true, if_false, List.nil_append, Option.bind_some, List.length_nil]
  rw [if_pos (by omega), if_pos (by omega), words_some l (by omega) hs, words_some (l ++ m) (by omega) hsm]
  simp only [Option.bind_some]
  rw [if_neg (by omega), if_pos (by omega), if_pos (by omega), if_pos (by omega), Int.toNat_natCast, htk, same4 _ _ (by omega) _ (by omega)]
  simp only [Option.bind_some, decide_true, if_true]
  rw [if_pos (by omega), if_pos (by omega), huk, same6 _ _ (by omega) _ (by omega)]
  simp only [Option.bind_some, decide_true, Bool.not_true]
  rw [show (9000 : Nat) = 8998 + 1 + 1 from rfl]
  simp only [bonsailaw08_DictJoins.j1, Bool.false_eq_true, if_false]
  rw [pick_some _ _ (by omega) (by omega) (fun x hx => (dictG_at (l ++ m) [] [] (by simp) (by simp) x hx).1), pickOf_dict]
  simp only [Option.bind_some, if_true]
  rw [same4 _ _ (by omega) _ (by omega)]
  simp only [Option.bind_some, decide_true, Bool.not_true, bonsailaw08_DictJoins.j2, Bool.false_eq_true, if_false]
  refine dj_l0 l m _ (by omega) (by omega) (by omega) (dictG l [] []).1.length ?_ ((dictG (l ++ m) [] []).1.length - (dictG l [] []).1.length) 8998 _ (by omega) (Nat.le_refl _) (by omega)
  intro i hi hge
  have hnd := dictG_nodup (l ++ m) [] [] (by simp)
  have hnot : (dictG (l ++ m) [] []).1[i] ∉ l := by
    intro hx
    have hx := mem_dict l _ hx
    obtain ⟨q, hq, he⟩ := List.mem_iff_getElem.mp hx
    have he2 : (dictG (l ++ m) [] []).1[q]'(by omega) = (dictG l [] []).1[q] := by
      simp only [ht]
      exact List.getElem_append_left hq
    have := nodup_inj hnd (he2.trans he)
    omega
  refine ⟨?_, hnot⟩
  rcases dictG_mem (l ++ m) [] [] _ (List.getElem_mem hi) with h | h
  · simp at h
  · exact (List.mem_append.mp h).resolve_left hnot
end Go.Proofs.Ytbgjoiccehiglaa.Pure
end
