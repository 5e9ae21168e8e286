/- Part 2 of what RowsSizes, RowsBack stands on: merged by a program of this session out of its texts. -/
import Derived.Test.YtfgnjndfnijjoaaCSRowsSizes1
section
namespace Go.Proofs.Ytfgnjndfnijjoaa.Print
open Go.RowKit Go.Proofs.YtfgnjndfnijjoaaW.PrintWords Go.Proofs.YtfgnjndfnijjoaaW.PrintLast Go.Proofs.YtfgnjndfnijjoaaW.PrintMore
attribute [local go_sem] max2_int min2_int max_two min_two max_three min_three max_four min_four
attribute [local go_sem] run_store_float
set_option linter.unusedVariables false
set_option linter.unusedSimpArgs false
def cfMove.one (m : S30) : Option Bool := moves_One.f m.f0.f0 m.f0.f1 m.f1 m.f2 m.f3 m.f4
def cfMove.any : List S30 → Option Bool
  | [] => some false
  | m :: t => (cfMove.one m).bind fun b => if b then cfMove.any t else some true
def slices_ContainsFunc_bonsai_api_Move_bonsai_api_Move.f (l0 : List (S30)) : Option Bool := cfMove.any l0
set_option maxHeartbeats 8000000 in
set_option maxRecDepth 100000 in
theorem cfMove.lit (a0 a1 a2 a3 : Int) (a4 : ByteArray) (bv : Nat) (a5 : Int) (r : Bool) (w : World) (bq : FB bv a5) (h : moves_One.f a0 a1 a2 a3 a4 a5 = some r) :
    Calls Try.prog 53 #[.agg #[.int .i64 a0, .int .i64 a1, .int .i64 a2, .int .i64 a3, .string a4, .float .f64 bv]] w fun e w' => e = .returned (.bool (!r)) ∧ Below w.heap.size w w' := by
  have hu := Try.underlying30
  have HB := Aside0.mk (Below.refl w.heap.size w)
  go_enter Try.func53, Try.ntmps53
  go_wp2_with (first | (go_at_call 54; (with_reducible refine (moves_One.calls a0 a1 a2 a3 a4 bv a5 r _ bq h).mono ?_); rintro e' w1 ⟨rfl, hb1⟩))
  go_ret
  exact ⟨rfl, below_then ((Below.refl _ _).alloc (Nat.le_refl _) _) (by simp) hb1⟩
theorem cfMove.any_drop (l : List S30) (i : Nat) (h : i < l.length) : cfMove.any (l.drop i) = (cfMove.one l[i]).bind fun b => if b then cfMove.any (l.drop (i + 1)) else some true := by
  rw [List.drop_eq_getElem_cons h]
  rfl
set_option maxHeartbeats 8000000 in
set_option maxRecDepth 100000 in
theorem cfMove.index (A0 : Option Addr) (c0 : Nat) (l0 : List (S30)) (b : Bool) (w : World) (hr0 : Kd.C k30 w A0 l0.length l0) (hc0 : l0.length ≤ c0) (h : cfMove.any l0 = some b) :
    Calls Try.prog 79 #[.slice A0 l0.length c0, .func (.func 53) #[] #[]] w fun e w' => ∃ r : Int, e = .returned (.int .i64 r) ∧ Aside0 (decide (r ≥ 0) = b) ∧ Below w.heap.size w w' := by
  have hlen : (l0.length : Int) ≤ 9223372036854775807 := by have := hr0.2.1; omega
  have HR := Aside0.mk hr0
  clear hr0
  have H := Aside0.mk h
  clear h
  have hu := Try.underlying30
  go_enter Try.func79, Try.ntmps79
  go_wp2
  go_loopg [8] (l0.length + 1) (fun kq v8 w' => ∃ (i : Int), v8 = .int .i64 i ∧ Aside0 (0 ≤ i ∧ i ≤ l0.length ∧ l0.length - i < kq) ∧ Aside0 (cfMove.any (l0.drop i.toNat) = some b) ∧ Aside0 (Below w.heap.size w w'))
  case atStart => exact ⟨0, by first | rfl | simp, ⟨by omega⟩, H, ⟨Below.refl _ _⟩⟩
  case round =>
    obtain ⟨i, rfl, HK, HA, HB⟩ := hrel
    by_cases hi : i < (l0.length : Int)
    · cases gk with
      | zero => have := HK.out; exact absurd this (by omega)
      | succ k1 =>
        have hk := HK.out
        have d1 : decide (i < (l0.length : Int)) = true := decide_eq_true hi
        have p1 : 0 ≤ i := hk.1
        have q1 : i < (l0.length : Int) := hi
        obtain ⟨ad, bv, e1, hx0, hx1, hx2, hx3, hx4, hx5, bq⟩ := at_T30 HR.out i p1 q1
        subst e1
        replace hx0 := pw_cell_below HB.out hx0
        replace hx1 := pw_cell_below HB.out hx1
        replace hx2 := pw_cell_below HB.out hx2
        replace hx3 := pw_cell_below HB.out hx3
        replace hx4 := pw_cell_below HB.out hx4
        replace hx5 := pw_cell_below HB.out hx5
        have hany := HA.out
        rw [cfMove.any_drop l0 i.toNat (by omega)] at hany
        have hrd : rd_T30 l0 i = l0[i.toNat]'(by omega) := by
          unfold rd_T30
          rw [List.getD_eq_getElem?_getD, List.getElem?_eq_getElem (by omega)]
          rfl
        rw [← hrd] at hany
        obtain ⟨o, ho, hany⟩ := Option.bind_eq_some_iff.1 hany
        unfold cfMove.one at ho
        have HO := Aside0.mk ho
        have HANY := Aside0.mk hany
        have rw1 : IntKind.i64.wrap (i + 1) = i + 1 := by rw [IntKind.wrap_i64]; omega
        clear ho hany hrd
        replace p1 := eq_true p1
        replace q1 := eq_true q1
        have BQ := Aside0.mk bq
        clear bq
        cases o
        · go_wp2_with (first | (go_at_call 53; (with_reducible refine (cfMove.lit _ _ _ _ _ _ _ _ _ BQ.out HO.out).mono ?_); rintro e' w1 ⟨rfl, hb1⟩))
          go_ret
          have hany := HANY.out
          obtain rfl : b = true := by simpa using hany.symm
          exact ⟨_, rfl, ⟨decide_eq_true hk.1⟩, below_then HB.out HB.out.size hb1⟩
        · go_wp2_with (first | (go_at_call 53; (with_reducible refine (cfMove.lit _ _ _ _ _ _ _ _ _ BQ.out HO.out).mono ?_); rintro e' w1 ⟨rfl, hb1⟩))
          go_roundg k1
          case measure => omega
          case rel =>
            refine ⟨i + 1, by first | rfl | simp [goInt, rw1], ⟨by omega⟩, ⟨?_⟩, ⟨below_then HB.out HB.out.size hb1⟩⟩
            have hany := HANY.out
            (first | rw [if_pos rfl] at hany | rw [if_pos trivial] at hany)
            rw [show (i + 1).toNat = i.toNat + 1 by omega]
            exact hany
    · have hk := HK.out
      have d1 : decide (i < (l0.length : Int)) = false := decide_eq_false hi
      go_wp2
      go_ret
      have hany := HA.out
      rw [List.drop_eq_nil_of_le (by omega)] at hany
      obtain rfl : b = false := by simpa [cfMove.any] using hany.symm
      exact ⟨_, rfl, ⟨rfl⟩, HB.out⟩
set_option maxHeartbeats 8000000 in
set_option maxRecDepth 100000 in
theorem slices_ContainsFunc_bonsai_api_Move_bonsai_api_Move.calls (A0 : Option Addr) (c0 : Nat) (l0 : List (S30)) (b : Bool) (w : World) (hr0 : Kd.C k30 w A0 l0.length l0) (hc0 : l0.length ≤ c0) (h : slices_ContainsFunc_bonsai_api_Move_bonsai_api_Move.f l0 = some b) :
    Calls Try.prog 52 #[.slice A0 l0.length c0, .func (.func 53) #[] #[]] w fun e w' => e = .returned (.bool b) ∧ Below w.heap.size w w' := by
  have h : cfMove.any l0 = some b := h
  go_enter Try.func52, Try.ntmps52
  go_wp2_with (first | (go_at_call 79; (with_reducible refine (cfMove.index _ _ _ _ _ hr0 hc0 h).mono ?_); rintro e' w1 ⟨r, rfl, hd, hb1⟩))
  go_ret
  exact ⟨by rw [← hd.out]; rfl, hb1⟩
def moves_May.l0 : Nat → List (S30) → Int → Option (Bool)
  | 0, _, _ => none
  | k + 1, x0, x3 => if x3 < (x0.length : Int) then (if 0 ≤ (wrap64 (x3 - 1)) then (if (wrap64 (x3 - 1)) < (x0.length : Int) then (if 0 ≤ x3 then ((rank_Before.f ((rd_T30 x0 (wrap64 (x3 - 1))).f0.f0) ((rd_T30 x0 (wrap64 (x3 - 1))).f0.f1) ((rd_T30 x0 x3).f0.f0) ((rd_T30 x0 x3).f0.f1)).bind fun t131 => (if t131 = true then (moves_May.l0 k x0 (wrap64 (x3 + 1))) else (some false))) else (none)) else (none)) else (none)) else (if (x0.length : Int) ≤ 2000 then ((slices_ContainsFunc_bonsai_api_Move_bonsai_api_Move.f x0).bind fun t132 => (some (!t132))) else (some false))
def moves_May.f (k : Nat) (l0 : List (S30)) : Option (Bool) := moves_May.l0 k l0 1
theorem moves_May.mono_l : ∀ k, (∀ y0 y1, LeO (moves_May.l0 k y0 y1) (moves_May.l0 (k + 1) y0 y1))
  | 0 => fun _ _ r h => by simp [moves_May.l0] at h
  | k + 1 => by
    have ih0 := moves_May.mono_l k
    · intro y0 y1
      unfold moves_May.l0
      repeat' first
      | (with_reducible exact ih0 _ _)
      | (with_reducible exact LeO.refl _)
      | (with_reducible exact LeO.none _)
      | (with_reducible refine LeO.ite ?_ ?_)
      | (with_reducible refine LeO.bind ?_ (fun _ => ?_))
      | exact ih0 _ _
      | exact LeO.none _
      | refine LeO.ite ?_ ?_
      | refine LeO.bind ?_ (fun _ => ?_)
theorem moves_May.mono : ∀ a0 k, LeO (moves_May.f k a0) (moves_May.f (k + 1) a0) := by
  intro a0 k
  have ih0 := moves_May.mono_l k
  unfold moves_May.f
  repeat' first
      | (with_reducible exact ih0 _ _)
      | (with_reducible exact LeO.refl _)
      | (with_reducible exact LeO.none _)
      | (with_reducible refine LeO.ite ?_ ?_)
      | (with_reducible refine LeO.bind ?_ (fun _ => ?_))
      | exact ih0 _ _
      | exact LeO.none _
      | refine LeO.ite ?_ ?_
      | refine LeO.bind ?_ (fun _ => ?_)
def moves_May.T4 : Bool × List (List Nat × List Nat) := (true, [([], []), ([], []), ([1], [1]), ([0, 2], [0, 2]), ([3], [3]), ([4], [4]), ([], []), ([], []), ([6, 7], [6, 7]), ([8], [8]), ([9], [9]), ([5, 10], [5, 10]), ([11], [11])])
def moves_May.B4 : List Nat := [0, 0, 2, 7, 15, 31, 0, 0, 192, 448, 960, 2047, 4095]
theorem moves_May.tab4 : rtab .any (opsOf Try.f28 4) = moves_May.T4 := by kernel_rfl
theorem moves_May.bits4 : waitsOk moves_May.T4.2 moves_May.B4 = true := by kernel_rfl
set_option maxHeartbeats 8000000 in
set_option maxRecDepth 100000 in
theorem moves_May.calls (k : Nat) (A0 : Option Addr) (c0 : Nat) (l0 : List (S30)) (r : Bool) (w : World) (hr0 : Kd.C k30 w A0 l0.length l0) (hc0 : l0.length ≤ c0) (h : moves_May.f k l0 = some r) :
    Calls Try.prog 28 #[.slice A0 l0.length c0] w fun e w' => e = .returned (.bool r) ∧ Below w.heap.size w w' := by
  have hu27 := Try.underlying27
  have HR0 := Aside0.mk hr0
  have HC0 := Aside0.mk hc0
  clear hr0 hc0
  have HB := Aside0.mk (Below.refl w.heap.size w)
  have H : (moves_May.l0 k l0 1) = some r := h
  clear h
  have H' := Aside0.mk H
  clear H
  go_enter Try.func28, Try.ntmps28
  go_wp2
  go_loopg [3] k (fun kq v3 w' => ∃ (x3_1 : Int), v3 = .int .i64 x3_1 ∧ Aside0 (moves_May.l0 kq l0 x3_1 = some r) ∧ Aside0 (kq ≤ k) ∧ Aside0 (Below w.heap.size w w'))
  case atStart => exact ⟨(1), (by first | rfl | (simp; done) | (simp [*]; done)), H', ⟨Nat.le_refl _⟩, ⟨by repeat (first | (with_reducible first | exact HB.out | apply below_alloc | apply pw_below_drewN | apply below_drew1) | exact HB.out)⟩⟩
  case round =>
    clear H'
    obtain ⟨x3_1, rfl, HA, HK1, HB⟩ := hrel
    cases gk with
    | zero => exact absurd HA.out (by simp [moves_May.l0])
    | succ k1 =>
      have H := HA.out
      clear HA
      simp only [moves_May.l0] at H
      by_cases c2 : x3_1 < (l0.length : Int)
      · rw [if_pos c2] at H
        have c2b0 : decide (x3_1 < (l0.length : Int)) = true := decide_eq_true c2
        clear c2
        obtain ⟨ji3, hji3⟩ : ∃ j_ : Int, (wrap64 (x3_1 - 1)) = j_ := ⟨_, rfl⟩
        replace H : (if 0 ≤ (ji3) then (if (ji3) < (l0.length : Int) then (if 0 ≤ x3_1 then ((rank_Before.f ((rd_T30 l0 (ji3)).f0.f0) ((rd_T30 l0 (ji3)).f0.f1) ((rd_T30 l0 x3_1).f0.f0) ((rd_T30 l0 x3_1).f0.f1)).bind fun t131 => (if t131 = true then (moves_May.l0 k1 l0 (wrap64 (x3_1 + 1))) else (some false))) else (none)) else (none)) else (none)) = some r := by first | (rw [hji3] at H; exact H) | (simp only [hji3] at H ⊢; exact H)
        have hji3w : (IntKind.i64.wrap (x3_1 - 1)) = ji3 := (i64_w _).trans hji3
        by_cases c4 : 0 ≤ (ji3)
        · rw [if_pos c4] at H
          have c4b0 : decide (0 ≤ (ji3)) = true := decide_eq_true c4
          clear c4
          by_cases c5 : (ji3) < (l0.length : Int)
          · rw [if_pos c5] at H
            have c5b0 : decide ((ji3) < (l0.length : Int)) = true := decide_eq_true c5
            clear c5
            by_cases c6 : 0 ≤ x3_1
            · rw [if_pos c6] at H
              have c6b0 : decide (0 ≤ x3_1) = true := decide_eq_true c6
              clear c6
              replace H := Option.bind_eq_some_iff.mp H
              obtain ⟨t131, A70, H⟩ := H
              replace H : (if t131 = true then (moves_May.l0 k1 l0 (wrap64 (x3_1 + 1))) else (some false)) = some r := H
              have A7 := Aside0.mk A70
              clear A70
              by_cases c8 : t131 = true
              · subst c8
                have H1 : (moves_May.l0 k1 l0 (wrap64 (x3_1 + 1))) = some r := by rw [if_pos rfl] at H; exact H
                clear H
                have H := H1
                clear H1
                have H' := Aside0.mk H
                clear H
                try go_wp2
                have n0_ := Aside0.mk (below_drew1 HB.out)
                clear HB
                have HB := n0_
                clear n0_
                have p129 : 0 ≤ ((ji3) : Int) := of_decide_eq_true (by first | (with_reducible assumption) | assumption)
                have q129 : (ji3) < (l0.length : Int) := of_decide_eq_true (by first | (with_reducible assumption) | assumption)
                obtain ⟨ad129, bv129_5, e129, hx129_0, hx129_1, hx129_2, hx129_3, hx129_4, hx129_5, bq129_5⟩ := at_T30 HR0.out (ji3) p129 q129
                have hw129_5 := hx129_5
                have hw129_4 := hx129_4
                have hw129_3 := hx129_3
                have hw129_2 := hx129_2
                have hw129_1 := hx129_1
                have hw129_0 := hx129_0
                cases e129
                replace hx129_0 := (HB.out.cell (World.block_lt_of_cell? w _ hx129_0)).trans hx129_0
                replace hx129_1 := (HB.out.cell (World.block_lt_of_cell? w _ hx129_1)).trans hx129_1
                replace hx129_2 := (HB.out.cell (World.block_lt_of_cell? w _ hx129_2)).trans hx129_2
                replace hx129_3 := (HB.out.cell (World.block_lt_of_cell? w _ hx129_3)).trans hx129_3
                replace hx129_4 := (HB.out.cell (World.block_lt_of_cell? w _ hx129_4)).trans hx129_4
                replace hx129_5 := (HB.out.cell (World.block_lt_of_cell? w _ hx129_5)).trans hx129_5
                replace p129 := eq_true p129
                replace q129 := eq_true q129
                have p130 : 0 ≤ (x3_1 : Int) := of_decide_eq_true (by first | (with_reducible assumption) | assumption)
                have q130 : x3_1 < (l0.length : Int) := of_decide_eq_true (by first | (with_reducible assumption) | assumption)
                obtain ⟨ad130, bv130_5, e130, hx130_0, hx130_1, hx130_2, hx130_3, hx130_4, hx130_5, bq130_5⟩ := at_T30 HR0.out x3_1 p130 q130
                have hw130_5 := hx130_5
                have hw130_4 := hx130_4
                have hw130_3 := hx130_3
                have hw130_2 := hx130_2
                have hw130_1 := hx130_1
                have hw130_0 := hx130_0
                obtain rfl : ad129 = ad130 := (by injection e130)
                replace hx130_0 := (HB.out.cell (World.block_lt_of_cell? w _ hx130_0)).trans hx130_0
                replace hx130_1 := (HB.out.cell (World.block_lt_of_cell? w _ hx130_1)).trans hx130_1
                replace hx130_2 := (HB.out.cell (World.block_lt_of_cell? w _ hx130_2)).trans hx130_2
                replace hx130_3 := (HB.out.cell (World.block_lt_of_cell? w _ hx130_3)).trans hx130_3
                replace hx130_4 := (HB.out.cell (World.block_lt_of_cell? w _ hx130_4)).trans hx130_4
                replace hx130_5 := (HB.out.cell (World.block_lt_of_cell? w _ hx130_5)).trans hx130_5
                replace p130 := eq_true p130
                replace q130 := eq_true q130
                refine start_ (n := 13) (S := fun w' => w'.cell? (ad129.add (((ji3)).toNat * 6)) = some (.int .i64 ((rd_T30 l0 (ji3)).f0.f0)) ∧ w'.cell? ⟨(ad129.add (((ji3)).toNat * 6)).block, (ad129.add (((ji3)).toNat * 6)).off + 1, none⟩ = some (.int .i64 ((rd_T30 l0 (ji3)).f0.f1)) ∧ w'.cell? ⟨(ad129.add (((ji3)).toNat * 6)).block, (ad129.add (((ji3)).toNat * 6)).off + 2, none⟩ = some (.int .i64 ((rd_T30 l0 (ji3)).f1)) ∧ w'.cell? ⟨(ad129.add (((ji3)).toNat * 6)).block, (ad129.add (((ji3)).toNat * 6)).off + 3, none⟩ = some (.int .i64 ((rd_T30 l0 (ji3)).f2)) ∧ w'.cell? ⟨(ad129.add (((ji3)).toNat * 6)).block, (ad129.add (((ji3)).toNat * 6)).off + 4, none⟩ = some (.string ((rd_T30 l0 (ji3)).f3)) ∧ w'.cell? ⟨(ad129.add (((ji3)).toNat * 6)).block, (ad129.add (((ji3)).toNat * 6)).off + 5, none⟩ = some (.float .f64 bv129_5) ∧ w'.cell? (ad129.add ((x3_1).toNat * 6)) = some (.int .i64 ((rd_T30 l0 x3_1).f0.f0)) ∧ w'.cell? ⟨(ad129.add ((x3_1).toNat * 6)).block, (ad129.add ((x3_1).toNat * 6)).off + 1, none⟩ = some (.int .i64 ((rd_T30 l0 x3_1).f0.f1)) ∧ w'.cell? ⟨(ad129.add ((x3_1).toNat * 6)).block, (ad129.add ((x3_1).toNat * 6)).off + 2, none⟩ = some (.int .i64 ((rd_T30 l0 x3_1).f1)) ∧ w'.cell? ⟨(ad129.add ((x3_1).toNat * 6)).block, (ad129.add ((x3_1).toNat * 6)).off + 3, none⟩ = some (.int .i64 ((rd_T30 l0 x3_1).f2)) ∧ w'.cell? ⟨(ad129.add ((x3_1).toNat * 6)).block, (ad129.add ((x3_1).toNat * 6)).off + 4, none⟩ = some (.string ((rd_T30 l0 x3_1).f3)) ∧ w'.cell? ⟨(ad129.add ((x3_1).toNat * 6)).block, (ad129.add ((x3_1).toNat * 6)).off + 5, none⟩ = some (.float .f64 bv130_5)) (ds := []) #[false, false, false, false, false, false, false, false, false, false, false, false, false] (by kernel_rfl) rfl rfl ⟨((HB.out.cell (World.block_lt_of_cell? w _ hw129_0)).trans hw129_0), ((HB.out.cell (World.block_lt_of_cell? w _ hw129_1)).trans hw129_1), ((HB.out.cell (World.block_lt_of_cell? w _ hw129_2)).trans hw129_2), ((HB.out.cell (World.block_lt_of_cell? w _ hw129_3)).trans hw129_3), ((HB.out.cell (World.block_lt_of_cell? w _ hw129_4)).trans hw129_4), ((HB.out.cell (World.block_lt_of_cell? w _ hw129_5)).trans hw129_5), ((HB.out.cell (World.block_lt_of_cell? w _ hw130_0)).trans hw130_0), ((HB.out.cell (World.block_lt_of_cell? w _ hw130_1)).trans hw130_1), ((HB.out.cell (World.block_lt_of_cell? w _ hw130_2)).trans hw130_2), ((HB.out.cell (World.block_lt_of_cell? w _ hw130_3)).trans hw130_3), ((HB.out.cell (World.block_lt_of_cell? w _ hw130_4)).trans hw130_4), ((HB.out.cell (World.block_lt_of_cell? w _ hw130_5)).trans hw130_5)⟩ (fun hHeld => ?_); refine with_tabW moves_May.tab4 moves_May.bits4 (fun HT_ HW_ => ?_)
                generalize wr.drew = w9 at HB hx129_0 hx129_1 hx129_2 hx129_3 hx129_4 hx129_5 hx130_0 hx130_1 hx130_2 hx130_3 hx130_4 hx130_5 hHeld ⊢
                refine pure_ (i := 0) (N := some 10) (v := ?_) (a' := ?_) #[true, false, false, false, false, false, false, false, false, false, false, false, false] rfl rfl (any_of HT_.out (by kernel_rfl)) (fun _ _ _ h => h) (Or.inl ⟨by rfl, ?_⟩) ?_ ?_
                rotate_left
                · intro w'
                  go_simp
                  with_reducible rfl
                rotate_left
                · simp only [Act.put, List.setIfInBounds_toArray, List.set_cons_zero, List.set_cons_succ, i64_w, i32_w]
                  rfl
                refine pure_ (i := 1) (N := some 11) (v := ?_) (a' := ?_) #[true, true, false, false, false, false, false, false, false, false, false, false, false] rfl rfl (any_of HT_.out (by kernel_rfl)) (fun _ _ _ h => h) (Or.inl ⟨by rfl, ?_⟩) ?_ ?_
                rotate_left
                · intro w'
                  go_simp
                  with_reducible rfl
                rotate_left
                · simp only [Act.put, List.setIfInBounds_toArray, List.set_cons_zero, List.set_cons_succ, i64_w, i32_w]
                  rfl
                refine pure_ (i := 2) (N := some 12) (v := ?_) (a' := ?_) #[true, true, true, false, false, false, false, false, false, false, false, false, false] rfl rfl (any_of HT_.out (by kernel_rfl)) (fun _ _ _ h => h) (Or.inl ⟨by rfl, ?_⟩) ?_ ?_
                rotate_left
                · intro w'
                  go_simp
                  with_reducible rfl
                rotate_left
                · simp only [Act.put, List.setIfInBounds_toArray, List.set_cons_zero, List.set_cons_succ, i64_w, i32_w]
                  rfl
                refine pure_ (i := 3) (N := some 13) (v := ?_) (a' := ?_) #[true, true, true, true, false, false, false, false, false, false, false, false, false] rfl rfl (any_of HT_.out (by kernel_rfl)) (fun _ _ _ h => h) (Or.inl ⟨by rfl, ?_⟩) ?_ ?_
                rotate_left
                · intro w'
                  go_simp
                  with_reducible rfl
                rotate_left
                · simp only [Act.put, List.setIfInBounds_toArray, List.set_cons_zero, List.set_cons_succ, i64_w, i32_w]
                  rfl
                refine pure_ (i := 4) (N := some 14) (v := ?_) (a' := ?_) #[true, true, true, true, true, false, false, false, false, false, false, false, false] rfl rfl (any_of HT_.out (by kernel_rfl)) (fun _ _ _ h => h) (Or.inl ⟨by rfl, ?_⟩) ?_ ?_
                rotate_left
                · intro w'
                  go_simp
                  with_reducible rfl
                rotate_left
                · simp only [Act.put, List.setIfInBounds_toArray, List.set_cons_zero, List.set_cons_succ, i64_w, i32_w]
                  rfl
                refine pure_ (i := 6) (N := some 16) (v := ?_) (a' := ?_) #[true, true, true, true, true, false, true, false, false, false, false, false, false] rfl rfl (any_of HT_.out (by kernel_rfl)) (fun _ _ _ h => h) (Or.inl ⟨by rfl, ?_⟩) ?_ ?_
                rotate_left
                · intro w'
                  go_simp
                  with_reducible rfl
                rotate_left
                · simp only [Act.put, List.setIfInBounds_toArray, List.set_cons_zero, List.set_cons_succ, i64_w, i32_w]
                  rfl
                refine pure_ (i := 7) (N := some 17) (v := ?_) (a' := ?_) #[true, true, true, true, true, false, true, true, false, false, false, false, false] rfl rfl (any_of HT_.out (by kernel_rfl)) (fun _ _ _ h => h) (Or.inl ⟨by rfl, ?_⟩) ?_ ?_
                rotate_left
                · intro w'
                  go_simp
                  with_reducible rfl
                rotate_left
                · simp only [Act.put, List.setIfInBounds_toArray, List.set_cons_zero, List.set_cons_succ, i64_w, i32_w]
                  rfl
                refine pure_ (i := 8) (N := some 18) (v := ?_) (a' := ?_) #[true, true, true, true, true, false, true, true, true, false, false, false, false] rfl rfl (any_of HT_.out (by kernel_rfl)) (fun _ _ _ h => h) (Or.inl ⟨by rfl, ?_⟩) ?_ ?_
                rotate_left
                · intro w'
                  go_simp
                  with_reducible rfl
                rotate_left
                · simp only [Act.put, List.setIfInBounds_toArray, List.set_cons_zero, List.set_cons_succ, i64_w, i32_w]
                  rfl
                refine pure_ (i := 9) (N := some 19) (v := ?_) (a' := ?_) #[true, true, true, true, true, false, true, true, true, true, false, false, false] rfl rfl (any_of HT_.out (by kernel_rfl)) (fun _ _ _ h => h) (Or.inl ⟨by rfl, ?_⟩) ?_ ?_
                rotate_left
                · intro w'
                  go_simp
                  with_reducible rfl
                rotate_left
                · simp only [Act.put, List.setIfInBounds_toArray, List.set_cons_zero, List.set_cons_succ, i64_w, i32_w]
                  rfl
                refine take_ (i := 5) (N := some 15) (v := ?_) (a' := ?_) #[true, true, true, true, true, true, true, true, true, true, false, false, false] rfl rfl (take_ofW HT_.out HW_.out (by kernel_rfl)) (fun _ _ _ h => h) (Or.inl ⟨by rfl, ?_⟩) hHeld ?_ ?_
                rotate_left
                · rintro w' ⟨s0, s1, s2, s3, s4, s5, s6, s7, s8, s9, s10, s11⟩
                  go_simp
                  with_reducible rfl
                rotate_left
                · simp only [Act.put, List.setIfInBounds_toArray, List.set_cons_zero, List.set_cons_succ, i64_w, i32_w]
                  rfl
                refine take_ (i := 10) (N := some 20) (v := ?_) (a' := ?_) #[true, true, true, true, true, true, true, true, true, true, true, false, false] rfl rfl (take_ofW HT_.out HW_.out (by kernel_rfl)) (fun _ _ _ h => h) (Or.inl ⟨by rfl, ?_⟩) hHeld ?_ ?_
                rotate_left
                · rintro w' ⟨s0, s1, s2, s3, s4, s5, s6, s7, s8, s9, s10, s11⟩
                  go_simp
                  with_reducible rfl
                rotate_left
                · simp only [Act.put, List.setIfInBounds_toArray, List.set_cons_zero, List.set_cons_succ, i64_w, i32_w]
                  rfl
                refine one_ (i := 11) (N := some 21) #[true, true, true, true, true, true, true, true, true, true, true, true, false] rfl rfl (one_of HT_.out (by kernel_rfl)) (by decide) (fun K hK => ?_)
                refine goes_ Try.func33 (by kernel_rfl) rfl #[.agg #[.int .i64 ((rd_T30 l0 (ji3)).f0.f0), .int .i64 ((rd_T30 l0 (ji3)).f0.f1)], .agg #[.int .i64 ((rd_T30 l0 x3_1).f0.f0), .int .i64 ((rd_T30 l0 x3_1).f0.f1)]] (by rfl) rfl rfl (by (try simp only [List.map_toArray, List.map_cons, List.map_nil]); first | done | (simp only [hji3]; rfl) | rfl | (simp only [List.length_drop, List.length_take]; rfl)) ?_
                with_reducible refine (rank_Before.calls ((rd_T30 l0 (ji3)).f0.f0) ((rd_T30 l0 (ji3)).f0.f1) ((rd_T30 l0 x3_1).f0.f0) ((rd_T30 l0 x3_1).f0.f1) true _ A7.out).mono ?_
                rintro e w10 ⟨rfl, hb⟩
                refine ⟨_, rfl, ?_⟩
                have n0_ := Aside0.mk (below_step (by repeat (first | (with_reducible first | exact HB.out | apply below_alloc | apply pw_below_drewN | apply below_drew1) | exact HB.out)) hb)
                clear HB
                have HB := n0_
                clear n0_
                (try clear hb)
                (try clear hb2)
                (try clear hk)
                (try clear hi)
                refine hK.out _ _ ⟨((HB.out.cell (World.block_lt_of_cell? w _ hw129_0)).trans hw129_0), ((HB.out.cell (World.block_lt_of_cell? w _ hw129_1)).trans hw129_1), ((HB.out.cell (World.block_lt_of_cell? w _ hw129_2)).trans hw129_2), ((HB.out.cell (World.block_lt_of_cell? w _ hw129_3)).trans hw129_3), ((HB.out.cell (World.block_lt_of_cell? w _ hw129_4)).trans hw129_4), ((HB.out.cell (World.block_lt_of_cell? w _ hw129_5)).trans hw129_5), ((HB.out.cell (World.block_lt_of_cell? w _ hw130_0)).trans hw130_0), ((HB.out.cell (World.block_lt_of_cell? w _ hw130_1)).trans hw130_1), ((HB.out.cell (World.block_lt_of_cell? w _ hw130_2)).trans hw130_2), ((HB.out.cell (World.block_lt_of_cell? w _ hw130_3)).trans hw130_3), ((HB.out.cell (World.block_lt_of_cell? w _ hw130_4)).trans hw130_4), ((HB.out.cell (World.block_lt_of_cell? w _ hw130_5)).trans hw130_5)⟩ (fun hHeld => ?_)
                clear hK K
                refine norm_ (a' := ?_) ?_ ?_
                rotate_left
                · show Act.put _ (some 21) _ = _
                  simp only [Act.put, List.setIfInBounds_toArray, List.set_cons_zero, List.set_cons_succ, i64_w, i32_w]
                  rfl
                refine pure_ (i := 12) (N := some 22) (v := ?_) (a' := ?_) #[true, true, true, true, true, true, true, true, true, true, true, true, true] rfl rfl (any_of HT_.out (by kernel_rfl)) (fun _ _ _ h => h) (Or.inl ⟨by rfl, ?_⟩) ?_ ?_
                rotate_left
                · intro w'
                  go_simp
                  with_reducible rfl
                rotate_left
                · simp only [Act.put, List.setIfInBounds_toArray, List.set_cons_zero, List.set_cons_succ, i64_w, i32_w]
                  rfl
                refine done_ (done_of HT_.out (by kernel_rfl)) ?_
                try go_wp2
                go_roundg k1
                case measure => have := HK1.out; omega
                case rel => exact ⟨(wrap64 (x3_1 + 1)), (by first | rfl | (simp; done) | (simp [*]; done)), H', ⟨by have := HK1.out; omega⟩, ⟨by repeat (first | (with_reducible first | exact HB.out | apply below_alloc | apply pw_below_drewN | apply below_drew1) | exact HB.out)⟩⟩
              · replace c8 := Bool.eq_false_iff.mpr c8
                subst c8
                have H1 : (some false) = some r := by rw [if_neg (show ¬ (false = true) by decide)] at H; exact H
                clear H
                have H := H1
                clear H1
                obtain rfl := Option.some.inj H
                try go_wp2
                have n0_ := Aside0.mk (below_drew1 HB.out)
                clear HB
                have HB := n0_
                clear n0_
                have p129 : 0 ≤ ((ji3) : Int) := of_decide_eq_true (by first | (with_reducible assumption) | assumption)
                have q129 : (ji3) < (l0.length : Int) := of_decide_eq_true (by first | (with_reducible assumption) | assumption)
                obtain ⟨ad129, bv129_5, e129, hx129_0, hx129_1, hx129_2, hx129_3, hx129_4, hx129_5, bq129_5⟩ := at_T30 HR0.out (ji3) p129 q129
                have hw129_5 := hx129_5
                have hw129_4 := hx129_4
                have hw129_3 := hx129_3
                have hw129_2 := hx129_2
                have hw129_1 := hx129_1
                have hw129_0 := hx129_0
                cases e129
                replace hx129_0 := (HB.out.cell (World.block_lt_of_cell? w _ hx129_0)).trans hx129_0
                replace hx129_1 := (HB.out.cell (World.block_lt_of_cell? w _ hx129_1)).trans hx129_1
                replace hx129_2 := (HB.out.cell (World.block_lt_of_cell? w _ hx129_2)).trans hx129_2
                replace hx129_3 := (HB.out.cell (World.block_lt_of_cell? w _ hx129_3)).trans hx129_3
                replace hx129_4 := (HB.out.cell (World.block_lt_of_cell? w _ hx129_4)).trans hx129_4
                replace hx129_5 := (HB.out.cell (World.block_lt_of_cell? w _ hx129_5)).trans hx129_5
                replace p129 := eq_true p129
                replace q129 := eq_true q129
                have p130 : 0 ≤ (x3_1 : Int) := of_decide_eq_true (by first | (with_reducible assumption) | assumption)
                have q130 : x3_1 < (l0.length : Int) := of_decide_eq_true (by first | (with_reducible assumption) | assumption)
                obtain ⟨ad130, bv130_5, e130, hx130_0, hx130_1, hx130_2, hx130_3, hx130_4, hx130_5, bq130_5⟩ := at_T30 HR0.out x3_1 p130 q130
                have hw130_5 := hx130_5
                have hw130_4 := hx130_4
                have hw130_3 := hx130_3
                have hw130_2 := hx130_2
                have hw130_1 := hx130_1
                have hw130_0 := hx130_0
                obtain rfl : ad129 = ad130 := (by injection e130)
                replace hx130_0 := (HB.out.cell (World.block_lt_of_cell? w _ hx130_0)).trans hx130_0
                replace hx130_1 := (HB.out.cell (World.block_lt_of_cell? w _ hx130_1)).trans hx130_1
                replace hx130_2 := (HB.out.cell (World.block_lt_of_cell? w _ hx130_2)).trans hx130_2
                replace hx130_3 := (HB.out.cell (World.block_lt_of_cell? w _ hx130_3)).trans hx130_3
                replace hx130_4 := (HB.out.cell (World.block_lt_of_cell? w _ hx130_4)).trans hx130_4
                replace hx130_5 := (HB.out.cell (World.block_lt_of_cell? w _ hx130_5)).trans hx130_5
                replace p130 := eq_true p130
                replace q130 := eq_true q130
                refine start_ (n := 13) (S := fun w' => w'.cell? (ad129.add (((ji3)).toNat * 6)) = some (.int .i64 ((rd_T30 l0 (ji3)).f0.f0)) ∧ w'.cell? ⟨(ad129.add (((ji3)).toNat * 6)).block, (ad129.add (((ji3)).toNat * 6)).off + 1, none⟩ = some (.int .i64 ((rd_T30 l0 (ji3)).f0.f1)) ∧ w'.cell? ⟨(ad129.add (((ji3)).toNat * 6)).block, (ad129.add (((ji3)).toNat * 6)).off + 2, none⟩ = some (.int .i64 ((rd_T30 l0 (ji3)).f1)) ∧ w'.cell? ⟨(ad129.add (((ji3)).toNat * 6)).block, (ad129.add (((ji3)).toNat * 6)).off + 3, none⟩ = some (.int .i64 ((rd_T30 l0 (ji3)).f2)) ∧ w'.cell? ⟨(ad129.add (((ji3)).toNat * 6)).block, (ad129.add (((ji3)).toNat * 6)).off + 4, none⟩ = some (.string ((rd_T30 l0 (ji3)).f3)) ∧ w'.cell? ⟨(ad129.add (((ji3)).toNat * 6)).block, (ad129.add (((ji3)).toNat * 6)).off + 5, none⟩ = some (.float .f64 bv129_5) ∧ w'.cell? (ad129.add ((x3_1).toNat * 6)) = some (.int .i64 ((rd_T30 l0 x3_1).f0.f0)) ∧ w'.cell? ⟨(ad129.add ((x3_1).toNat * 6)).block, (ad129.add ((x3_1).toNat * 6)).off + 1, none⟩ = some (.int .i64 ((rd_T30 l0 x3_1).f0.f1)) ∧ w'.cell? ⟨(ad129.add ((x3_1).toNat * 6)).block, (ad129.add ((x3_1).toNat * 6)).off + 2, none⟩ = some (.int .i64 ((rd_T30 l0 x3_1).f1)) ∧ w'.cell? ⟨(ad129.add ((x3_1).toNat * 6)).block, (ad129.add ((x3_1).toNat * 6)).off + 3, none⟩ = some (.int .i64 ((rd_T30 l0 x3_1).f2)) ∧ w'.cell? ⟨(ad129.add ((x3_1).toNat * 6)).block, (ad129.add ((x3_1).toNat * 6)).off + 4, none⟩ = some (.string ((rd_T30 l0 x3_1).f3)) ∧ w'.cell? ⟨(ad129.add ((x3_1).toNat * 6)).block, (ad129.add ((x3_1).toNat * 6)).off + 5, none⟩ = some (.float .f64 bv130_5)) (ds := []) #[false, false, false, false, false, false, false, false, false, false, false, false, false] (by kernel_rfl) rfl rfl ⟨((HB.out.cell (World.block_lt_of_cell? w _ hw129_0)).trans hw129_0), ((HB.out.cell (World.block_lt_of_cell? w _ hw129_1)).trans hw129_1), ((HB.out.cell (World.block_lt_of_cell? w _ hw129_2)).trans hw129_2), ((HB.out.cell (World.block_lt_of_cell? w _ hw129_3)).trans hw129_3), ((HB.out.cell (World.block_lt_of_cell? w _ hw129_4)).trans hw129_4), ((HB.out.cell (World.block_lt_of_cell? w _ hw129_5)).trans hw129_5), ((HB.out.cell (World.block_lt_of_cell? w _ hw130_0)).trans hw130_0), ((HB.out.cell (World.block_lt_of_cell? w _ hw130_1)).trans hw130_1), ((HB.out.cell (World.block_lt_of_cell? w _ hw130_2)).trans hw130_2), ((HB.out.cell (World.block_lt_of_cell? w _ hw130_3)).trans hw130_3), ((HB.out.cell (World.block_lt_of_cell? w _ hw130_4)).trans hw130_4), ((HB.out.cell (World.block_lt_of_cell? w _ hw130_5)).trans hw130_5)⟩ (fun hHeld => ?_); refine with_tabW moves_May.tab4 moves_May.bits4 (fun HT_ HW_ => ?_)
                generalize wr.drew = w11 at HB hx129_0 hx129_1 hx129_2 hx129_3 hx129_4 hx129_5 hx130_0 hx130_1 hx130_2 hx130_3 hx130_4 hx130_5 hHeld ⊢
                refine pure_ (i := 0) (N := some 10) (v := ?_) (a' := ?_) #[true, false, false, false, false, false, false, false, false, false, false, false, false] rfl rfl (any_of HT_.out (by kernel_rfl)) (fun _ _ _ h => h) (Or.inl ⟨by rfl, ?_⟩) ?_ ?_
                rotate_left
                · intro w'
                  go_simp
                  with_reducible rfl
                rotate_left
                · simp only [Act.put, List.setIfInBounds_toArray, List.set_cons_zero, List.set_cons_succ, i64_w, i32_w]
                  rfl
                refine pure_ (i := 1) (N := some 11) (v := ?_) (a' := ?_) #[true, true, false, false, false, false, false, false, false, false, false, false, false] rfl rfl (any_of HT_.out (by kernel_rfl)) (fun _ _ _ h => h) (Or.inl ⟨by rfl, ?_⟩) ?_ ?_
                rotate_left
                · intro w'
                  go_simp
                  with_reducible rfl
                rotate_left
                · simp only [Act.put, List.setIfInBounds_toArray, List.set_cons_zero, List.set_cons_succ, i64_w, i32_w]
                  rfl
                refine pure_ (i := 2) (N := some 12) (v := ?_) (a' := ?_) #[true, true, true, false, false, false, false, false, false, false, false, false, false] rfl rfl (any_of HT_.out (by kernel_rfl)) (fun _ _ _ h => h) (Or.inl ⟨by rfl, ?_⟩) ?_ ?_
                rotate_left
                · intro w'
                  go_simp
                  with_reducible rfl
                rotate_left
                · simp only [Act.put, List.setIfInBounds_toArray, List.set_cons_zero, List.set_cons_succ, i64_w, i32_w]
                  rfl
                refine pure_ (i := 3) (N := some 13) (v := ?_) (a' := ?_) #[true, true, true, true, false, false, false, false, false, false, false, false, false] rfl rfl (any_of HT_.out (by kernel_rfl)) (fun _ _ _ h => h) (Or.inl ⟨by rfl, ?_⟩) ?_ ?_
                rotate_left
                · intro w'
                  go_simp
                  with_reducible rfl
                rotate_left
                · simp only [Act.put, List.setIfInBounds_toArray, List.set_cons_zero, List.set_cons_succ, i64_w, i32_w]
                  rfl
                refine pure_ (i := 4) (N := some 14) (v := ?_) (a' := ?_) #[true, true, true, true, true, false, false, false, false, false, false, false, false] rfl rfl (any_of HT_.out (by kernel_rfl)) (fun _ _ _ h => h) (Or.inl ⟨by rfl, ?_⟩) ?_ ?_
                rotate_left
                · intro w'
                  go_simp
                  with_reducible rfl
                rotate_left
                · simp only [Act.put, List.setIfInBounds_toArray, List.set_cons_zero, List.set_cons_succ, i64_w, i32_w]
                  rfl
                refine pure_ (i := 6) (N := some 16) (v := ?_) (a' := ?_) #[true, true, true, true, true, false, true, false, false, false, false, false, false] rfl rfl (any_of HT_.out (by kernel_rfl)) (fun _ _ _ h => h) (Or.inl ⟨by rfl, ?_⟩) ?_ ?_
                rotate_left
                · intro w'
                  go_simp
                  with_reducible rfl
                rotate_left
                · simp only [Act.put, List.setIfInBounds_toArray, List.set_cons_zero, List.set_cons_succ, i64_w, i32_w]
                  rfl
                refine pure_ (i := 7) (N := some 17) (v := ?_) (a' := ?_) #[true, true, true, true, true, false, true, true, false, false, false, false, false] rfl rfl (any_of HT_.out (by kernel_rfl)) (fun _ _ _ h => h) (Or.inl ⟨by rfl, ?_⟩) ?_ ?_
                rotate_left
                · intro w'
                  go_simp
                  with_reducible rfl
                rotate_left
                · simp only [Act.put, List.setIfInBounds_toArray, List.set_cons_zero, List.set_cons_succ, i64_w, i32_w]
                  rfl
                refine pure_ (i := 8) (N := some 18) (v := ?_) (a' := ?_) #[true, true, true, true, true, false, true, true, true, false, false, false, false] rfl rfl (any_of HT_.out (by kernel_rfl)) (fun _ _ _ h => h) (Or.inl ⟨by rfl, ?_⟩) ?_ ?_
                rotate_left
                · intro w'
                  go_simp
                  with_reducible rfl
                rotate_left
                · simp only [Act.put, List.setIfInBounds_toArray, List.set_cons_zero, List.set_cons_succ, i64_w, i32_w]
                  rfl
                refine pure_ (i := 9) (N := some 19) (v := ?_) (a' := ?_) #[true, true, true, true, true, false, true, true, true, true, false, false, false] rfl rfl (any_of HT_.out (by kernel_rfl)) (fun _ _ _ h => h) (Or.inl ⟨by rfl, ?_⟩) ?_ ?_
                rotate_left
                · intro w'
                  go_simp
                  with_reducible rfl
                rotate_left
                · simp only [Act.put, List.setIfInBounds_toArray, List.set_cons_zero, List.set_cons_succ, i64_w, i32_w]
                  rfl
                refine take_ (i := 5) (N := some 15) (v := ?_) (a' := ?_) #[true, true, true, true, true, true, true, true, true, true, false, false, false] rfl rfl (take_ofW HT_.out HW_.out (by kernel_rfl)) (fun _ _ _ h => h) (Or.inl ⟨by rfl, ?_⟩) hHeld ?_ ?_
                rotate_left
                · rintro w' ⟨s0, s1, s2, s3, s4, s5, s6, s7, s8, s9, s10, s11⟩
                  go_simp
                  with_reducible rfl
                rotate_left
                · simp only [Act.put, List.setIfInBounds_toArray, List.set_cons_zero, List.set_cons_succ, i64_w, i32_w]
                  rfl
                refine take_ (i := 10) (N := some 20) (v := ?_) (a' := ?_) #[true, true, true, true, true, true, true, true, true, true, true, false, false] rfl rfl (take_ofW HT_.out HW_.out (by kernel_rfl)) (fun _ _ _ h => h) (Or.inl ⟨by rfl, ?_⟩) hHeld ?_ ?_
                rotate_left
                · rintro w' ⟨s0, s1, s2, s3, s4, s5, s6, s7, s8, s9, s10, s11⟩
                  go_simp
                  with_reducible rfl
                rotate_left
                · simp only [Act.put, List.setIfInBounds_toArray, List.set_cons_zero, List.set_cons_succ, i64_w, i32_w]
                  rfl
                refine one_ (i := 11) (N := some 21) #[true, true, true, true, true, true, true, true, true, true, true, true, false] rfl rfl (one_of HT_.out (by kernel_rfl)) (by decide) (fun K hK => ?_)
                refine goes_ Try.func33 (by kernel_rfl) rfl #[.agg #[.int .i64 ((rd_T30 l0 (ji3)).f0.f0), .int .i64 ((rd_T30 l0 (ji3)).f0.f1)], .agg #[.int .i64 ((rd_T30 l0 x3_1).f0.f0), .int .i64 ((rd_T30 l0 x3_1).f0.f1)]] (by rfl) rfl rfl (by (try simp only [List.map_toArray, List.map_cons, List.map_nil]); first | done | (simp only [hji3]; rfl) | rfl | (simp only [List.length_drop, List.length_take]; rfl)) ?_
                with_reducible refine (rank_Before.calls ((rd_T30 l0 (ji3)).f0.f0) ((rd_T30 l0 (ji3)).f0.f1) ((rd_T30 l0 x3_1).f0.f0) ((rd_T30 l0 x3_1).f0.f1) false _ A7.out).mono ?_
                rintro e w12 ⟨rfl, hb⟩
                refine ⟨_, rfl, ?_⟩
                have n0_ := Aside0.mk (below_step (by repeat (first | (with_reducible first | exact HB.out | apply below_alloc | apply pw_below_drewN | apply below_drew1) | exact HB.out)) hb)
                clear HB
                have HB := n0_
                clear n0_
                (try clear hb)
                (try clear hb2)
                (try clear hk)
                (try clear hi)
                refine hK.out _ _ ⟨((HB.out.cell (World.block_lt_of_cell? w _ hw129_0)).trans hw129_0), ((HB.out.cell (World.block_lt_of_cell? w _ hw129_1)).trans hw129_1), ((HB.out.cell (World.block_lt_of_cell? w _ hw129_2)).trans hw129_2), ((HB.out.cell (World.block_lt_of_cell? w _ hw129_3)).trans hw129_3), ((HB.out.cell (World.block_lt_of_cell? w _ hw129_4)).trans hw129_4), ((HB.out.cell (World.block_lt_of_cell? w _ hw129_5)).trans hw129_5), ((HB.out.cell (World.block_lt_of_cell? w _ hw130_0)).trans hw130_0), ((HB.out.cell (World.block_lt_of_cell? w _ hw130_1)).trans hw130_1), ((HB.out.cell (World.block_lt_of_cell? w _ hw130_2)).trans hw130_2), ((HB.out.cell (World.block_lt_of_cell? w _ hw130_3)).trans hw130_3), ((HB.out.cell (World.block_lt_of_cell? w _ hw130_4)).trans hw130_4), ((HB.out.cell (World.block_lt_of_cell? w _ hw130_5)).trans hw130_5)⟩ (fun hHeld => ?_)
                clear hK K
                refine norm_ (a' := ?_) ?_ ?_
                rotate_left
                · show Act.put _ (some 21) _ = _
                  simp only [Act.put, List.setIfInBounds_toArray, List.set_cons_zero, List.set_cons_succ, i64_w, i32_w]
                  rfl
                refine pure_ (i := 12) (N := some 22) (v := ?_) (a' := ?_) #[true, true, true, true, true, true, true, true, true, true, true, true, true] rfl rfl (any_of HT_.out (by kernel_rfl)) (fun _ _ _ h => h) (Or.inl ⟨by rfl, ?_⟩) ?_ ?_
                rotate_left
                · intro w'
                  go_simp
                  with_reducible rfl
                rotate_left
                · simp only [Act.put, List.setIfInBounds_toArray, List.set_cons_zero, List.set_cons_succ, i64_w, i32_w]
                  rfl
                refine done_ (done_of HT_.out (by kernel_rfl)) ?_
                try go_wp2
                go_ret
                (try simp only [hji3])
                exact ⟨by first | rfl | (simp [errW_none, errW_some] <;> rfl) | (simp only [← hji3]; first | rfl | (simp [errW_none, errW_some] <;> rfl)) | (simp [*, errW_none, errW_some] <;> rfl), by repeat (first | (with_reducible first | exact HB.out | apply below_alloc | apply pw_below_drewN | apply below_drew1) | exact HB.out)⟩
            · rw [if_neg c6] at H
              exact absurd H (by simp)
          · rw [if_neg c5] at H
            exact absurd H (by simp)
        · rw [if_neg c4] at H
          exact absurd H (by simp)
      · rw [if_neg c2] at H
        have c2b0 : decide (x3_1 < (l0.length : Int)) = false := decide_eq_false c2
        clear c2
        by_cases c13 : (l0.length : Int) ≤ 2000
        · rw [if_pos c13] at H
          have c13b0 : decide ((l0.length : Int) ≤ 2000) = true := decide_eq_true c13
          have c13b1 : decide (l0.length ≤ 2000) = true := decide_eq_true (by omega)
          clear c13
          replace H := Option.bind_eq_some_iff.mp H
          obtain ⟨t132, A140, H⟩ := H
          replace H : (some (!t132)) = some r := H
          have A14 := Aside0.mk A140
          clear A140
          obtain rfl := Option.some.inj H
          go_wp2_with (first | (go_at_call 52; (with_reducible refine (slices_ContainsFunc_bonsai_api_Move_bonsai_api_Move.calls _ _ l0  t132 _ ?side1 ?side2 A14.out).mono ?_); (case side1 => repeat (first | exact (Kd.C_below HR0.out HB.out) | (with_reducible refine Kd.C_alloc ?_ _) | (with_reducible refine Kd.C_drewN ?_ _) | (with_reducible refine Kd.C_drew ?_))); (case side2 => exact HC0.out); rintro e w15 ⟨rfl, hb⟩; have n0_ := Aside0.mk (below_step (by repeat (first | (with_reducible first | exact HB.out | apply below_alloc | apply pw_below_drewN | apply below_drew1) | exact HB.out)) hb); clear HB; have HB := n0_; clear n0_; (try clear hb); (try clear hb2); (try clear hk); (try clear hi)))
          go_ret
          exact ⟨by first | rfl | (simp [errW_none, errW_some] <;> rfl) | (simp [*, errW_none, errW_some] <;> rfl), by repeat (first | (with_reducible first | exact HB.out | apply below_alloc | apply pw_below_drewN | apply below_drew1) | exact HB.out)⟩
        · rw [if_neg c13] at H
          have c13b0 : decide ((l0.length : Int) ≤ 2000) = false := decide_eq_false c13
          have c13b1 : decide (l0.length ≤ 2000) = false := decide_eq_false (by omega)
          clear c13
          obtain rfl := Option.some.inj H
          go_wp2
          go_ret
          exact ⟨by first | rfl | (simp [errW_none, errW_some] <;> rfl) | (simp [*, errW_none, errW_some] <;> rfl), by repeat (first | (with_reducible first | exact HB.out | apply below_alloc | apply pw_below_drewN | apply below_drew1) | exact HB.out)⟩
def rows_Encode.g (k : Nat) : List S30 → ByteArray → Option ByteArray
  | [], acc => some acc
  | m :: l, acc => (rows_One.f k m.f0.f0 m.f0.f1 m.f1 m.f2 m.f3 m.f4).bind fun a => if acc.size + a.size ≤ 140737488355328 then rows_Encode.g k l (acc ++ a) else none
def rows_Encode.b : ByteArray := ⟨#[66, 78, 83, 73, 1]⟩
def rows_Encode.f (k : Nat) (l0 : List (S30)) : Option (ByteArray × Int) :=
  (moves_May.f k l0).bind fun may => if may then (pack_Put.f k (l0.length : Int)).bind fun p => if rows_Encode.b.size + p.size ≤ 140737488355328 then (rows_Encode.g k l0 (rows_Encode.b ++ p)).bind fun s => some (s, 0) else none else some (ByteArray.empty, 1)
theorem rows_Encode.mono_g (k : Nat) (l : List S30) : ∀ acc, LeO (rows_Encode.g k l acc) (rows_Encode.g (k + 1) l acc) := by
  induction l with
  | nil => intro acc; exact LeO.refl _
  | cons x xs ih =>
    intro acc
    unfold rows_Encode.g
    exact LeO.bind (rows_One.mono _ _ _ _ _ _ _) fun a => LeO.ite (ih _) (LeO.refl _)
theorem rows_Encode.mono : ∀ a0 k, LeO (rows_Encode.f k a0) (rows_Encode.f (k + 1) a0) := by
  intro a0 k
  exact LeO.bind (moves_May.mono _ _) fun may => LeO.ite (LeO.bind (pack_Put.mono _ _) fun p => LeO.ite (LeO.bind (rows_Encode.mono_g _ _ _) fun s => LeO.refl _) (LeO.refl _)) (LeO.refl _)
set_option maxHeartbeats 8000000 in
set_option maxRecDepth 100000 in
theorem rows_Encode.calls (k : Nat) (A0 : Option Addr) (c0 : Nat) (l0 : List (S30)) (r1 : ByteArray) (r2 : Int) (w : World) (hr0 : Kd.C k30 w A0 l0.length l0) (hc0 : l0.length ≤ c0) (h : rows_Encode.f k l0 = some (r1, r2)) :
    Calls Try.prog 11 #[.slice A0 l0.length c0] w fun e w' => e = .returned (.tuple #[.string r1, .int .i64 r2]) ∧ Below w.heap.size w w' := by
  have hlen : (l0.length : Int) ≤ 9223372036854775807 := by have := hr0.2.1; omega
  have hu1 := Try.underlying30
  have HR := Aside0.mk hr0
  clear hr0
  unfold rows_Encode.f at h
  obtain ⟨may, H1, h⟩ := Option.bind_eq_some_iff.mp h
  have A1 := Aside0.mk H1
  clear H1
  cases may
  · obtain ⟨rfl, rfl⟩ : ByteArray.empty = r1 ∧ 1 = r2 := by simpa using h
    clear h
    go_enter Try.func11, Try.ntmps11
    go_wp2_with (first | (go_at_call 28; (with_reducible refine (moves_May.calls k _ _ _ _ _ HR.out hc0 A1.out).mono ?_); rintro e w1 ⟨rfl, hb⟩))
    go_ret2
    exact ⟨rfl, hb⟩
  · rw [if_pos rfl] at h
    obtain ⟨p, H2, h⟩ := Option.bind_eq_some_iff.mp h
    by_cases hs1 : rows_Encode.b.size + p.size ≤ 140737488355328
    case neg => rw [if_neg hs1] at h; exact absurd h (by simp)
    rw [if_pos hs1] at h
    obtain ⟨s, H3, h⟩ := Option.bind_eq_some_iff.mp h
    obtain ⟨rfl, rfl⟩ : s = r1 ∧ 0 = r2 := by simpa using h
    have A2 := Aside0.mk H2
    have A3 := Aside0.mk H3
    have S1 := Aside0.mk hs1
    clear H2 H3 h hs1
    obtain ⟨gb, hgb⟩ : ∃ gb : Nat, gb = gb := ⟨0, rfl⟩
    clear hgb gb
    go_enter Try.func11, Try.ntmps11
    go_wp2_with (go_at_call 28; (with_reducible refine (moves_May.calls k _ _ _ _ _ HR.out hc0 A1.out).mono ?_); rintro e w1 ⟨rfl, hb⟩; have HB1 := Aside0.mk hb; clear hb)
    obtain ⟨gb, hgb⟩ : ∃ gb, gb = w1.heap.size := ⟨_, rfl⟩
    obtain ⟨w2, hw2⟩ : ∃ W, W = w1.alloc (.cells #[.pointer none, .slice none 0 0] 45) := ⟨_, rfl⟩
    have HBl : Aside0 (Build.Bld gb gb ByteArray.empty w2) := ⟨by rw [hw2, hgb]; exact Build.Bld.fresh w1⟩
    have HB : Aside0 (Below w.heap.size w w2) := ⟨by rw [hw2]; exact HB1.out.alloc (below_size HB1.out) _⟩
    have HG : Aside0 (w.heap.size ≤ gb) := ⟨by rw [hgb]; exact below_size HB1.out⟩
    rw [← hw2, ← hgb]
    clear hw2 hgb HB1
    refine (Build.write gb gb ByteArray.empty ⟨#[66, 78, 83, 73, 1]⟩ _ HBl.out (by decide) (Nat.le_of_lt HBl.out.lt)).mono ?_
    rintro e w6 ⟨rfl, hbl, hb, hk⟩
    have n1_ := Aside0.mk (HB.out.trans (below_lower hb HG.out))
    clear HB HBl hb hk
    have HB := n1_; clear n1_
    have HBl := Aside0.mk (show Build.Bld gb gb rows_Encode.b w6 from by rwa [show ByteArray.empty ++ (⟨#[66, 78, 83, 73, 1]⟩ : ByteArray) = rows_Encode.b from rfl] at hbl)
    clear hbl
    go_wp2_with (first | (go_at_call 19; (with_reducible refine (pack_Put.calls k _ p _ A2.out).mono ?_); rintro e w5 ⟨rfl, hb⟩; have n0_ := Aside0.mk (HBl.out.below hb); have n2_ := Aside0.mk (below_step HB.out hb); clear HBl HB hb; have HBl := n0_; have HB := n2_; clear n0_ n2_))
    go_wp2_with (first | (go_at_call 18; (with_reducible refine (Build.write gb gb rows_Encode.b p _ HBl.out S1.out (Nat.le_of_lt HBl.out.lt)).mono ?_); rintro e w6 ⟨rfl, hbl, hb, hk⟩; have n2_ := Aside0.mk (HB.out.trans (below_lower hb HG.out)); clear HBl HB hb hk; have HBl := Aside0.mk hbl; have HB := n2_; clear n2_ hbl))
    go_loopg [18] (l0.length + 1) (fun kq v18 w' => ∃ (i : Int) (acc : ByteArray), v18 = .int .i64 i ∧ Aside0 (0 ≤ i ∧ i ≤ l0.length ∧ (kq : Int) + i = l0.length + 1) ∧ Aside0 (rows_Encode.g k (l0.drop i.toNat) acc = some s) ∧ Aside0 (Build.Bld gb gb acc w') ∧ Aside0 (Below w.heap.size w w'))
    case atStart => exact ⟨0, rows_Encode.b ++ p, by first | rfl | simp, ⟨by omega⟩, A3, HBl, HB⟩
    case round =>
      clear HBl HB A3
      obtain ⟨i, acc, rfl, HK, A3, HBl, HB⟩ := hrel
      by_cases hi : i < (l0.length : Int)
      · cases gk with
        | zero => have := HK.out; exact absurd this (by omega)
        | succ k1 =>
          have c1 : decide (i < (l0.length : Int)) = true := decide_eq_true hi
          have hk9 := HK.out
          have hdrop : l0.drop i.toNat = rd_T30 l0 i :: l0.drop (i.toNat + 1) := by
            rw [List.drop_eq_getElem_cons (show i.toNat < l0.length by omega)]
            congr 1
            unfold rd_T30
            simp [List.getD_eq_getElem?_getD, show i.toNat < l0.length by omega]
          have hG := A3.out
          clear A3
          rw [hdrop] at hG
          unfold rows_Encode.g at hG
          obtain ⟨a, A30, hG⟩ := Option.bind_eq_some_iff.mp hG
          by_cases hz : acc.size + a.size ≤ 140737488355328
          case neg => rw [if_neg hz] at hG; exact absurd hG (by simp)
          rw [if_pos hz] at hG
          have AG := Aside0.mk hG
          have AP := Aside0.mk A30
          have AZ := Aside0.mk hz
          clear hG A30 hz hdrop
          have p290 : 0 ≤ i := by omega
          have q290 : i < (l0.length : Int) := hi
          have e290 := at_T30 (Kd.C_below HR.out HB.out) i p290 q290
          obtain ⟨ad, b5, hA, hx0, hx1, hx2, hx3, hx4, hx5, q5⟩ := e290
          cases hA
          have BQ := Aside0.mk q5
          have hi0 := Aside0.mk hi
          clear hi hk9 q5
          replace p290 := eq_true p290
          replace q290 := eq_true q290
          go_wp2_with (first | (go_at_call 9; (with_reducible refine (rows_One.calls k _ _ _ _ _ _ _ a _ BQ.out AP.out).mono ?_); rintro e w5 ⟨rfl, hb⟩; have n0_ := Aside0.mk ((HBl.out.alloc _).below hb); have n2_ := Aside0.mk (below_step (HB.out.alloc (below_size HB.out) _) hb); clear HBl HB hb hx0 hx1 hx2 hx3 hx4 hx5; have HBl := n0_; have HB := n2_; clear n0_ n2_))
          go_wp2_with (first | (go_at_call 18; (with_reducible refine (Build.write gb gb acc a _ HBl.out AZ.out (Nat.le_of_lt HBl.out.lt)).mono ?_); rintro e w6 ⟨rfl, hbl, hb, hk⟩; have n2_ := Aside0.mk (HB.out.trans (below_lower hb HG.out)); clear HBl HB hb hk; have HBl := Aside0.mk hbl; have HB := n2_; clear n2_ hbl))
          go_roundg k1
          case measure => have := HK.out; omega
          case rel => exact ⟨wrap64 (i + 1), acc ++ a, (by first | rfl | (simp; done) | (simp [*]; done)), ⟨by have := HK.out; have := hi0.out; unfold wrap64; omega⟩, ⟨by rw [show (wrap64 (i + 1)).toNat = i.toNat + 1 by have := HK.out; have := hi0.out; unfold wrap64; omega]; exact AG.out⟩, HBl, HB⟩
      · have c1 : decide (i < (l0.length : Int)) = false := decide_eq_false hi
        have hk9 := HK.out
        have hG := A3.out
        rw [List.drop_eq_nil_of_le (by omega)] at hG
        unfold rows_Encode.g at hG
        obtain rfl := Option.some.inj hG
        clear hG A3 hi hk9
        go_wp2_with (first | (go_at_call 23; (with_reducible refine (Build.string gb gb _ _ HBl.out (Nat.le_of_lt HBl.out.lt)).mono ?_); rintro e w9 ⟨rfl, hb, hk⟩; have n2_ := Aside0.mk (HB.out.trans (below_lower hb HG.out)); clear HB; have HB := n2_; clear n2_))
        go_ret2
        exact ⟨rfl, HB.out⟩
def stringslite_HasPrefix.f (a0 : ByteArray) (a1 : ByteArray) : Option (Bool) := if (a0.size : Int) ≥ (a1.size : Int) then (if 0 ≤ (a1.size : Int) then (if (a1.size : Int) ≤ (a0.size : Int) then (some ((a0.extract 0 a1.size).toList == a1.toList)) else (none)) else (none)) else (some false)
set_option maxHeartbeats 8000000 in
set_option maxRecDepth 100000 in
theorem stringslite_HasPrefix.calls (a0 : ByteArray) (a1 : ByteArray) (r : Bool) (w : World) (h : stringslite_HasPrefix.f a0 a1 = some r) :
    Calls Try.prog 90 #[.string a0, .string a1] w fun e w' => e = .returned (.bool r) ∧ Drawn0 w w' := by
  have H : (if (a0.size : Int) ≥ (a1.size : Int) then (if 0 ≤ (a1.size : Int) then (if (a1.size : Int) ≤ (a0.size : Int) then (some ((a0.extract 0 a1.size).toList == a1.toList)) else (none)) else (none)) else (some false)) = some r := h
  clear h
  by_cases c3 : (a0.size : Int) ≥ (a1.size : Int)
  · rw [if_pos c3] at H
    have c3b0 : decide ((a1.size : Int) ≤ (a0.size : Int)) = true := decide_eq_true c3
    have c3b1 : decide (a1.size ≤ a0.size) = true := decide_eq_true (Int.ofNat_le.mp c3)
    clear c3
    by_cases c4 : 0 ≤ (a1.size : Int)
    · rw [if_pos c4] at H
      have c4b0 := eq_true c4
      have c4b1 : decide (0 ≤ (a1.size : Int)) = true := decide_eq_true c4
      clear c4
      by_cases c5 : (a1.size : Int) ≤ (a0.size : Int)
      · rw [if_pos c5] at H
        have c5b0 := eq_true c5
        have c5b1 : decide ((a1.size : Int) ≤ (a0.size : Int)) = true := decide_eq_true c5
        clear c5
        obtain rfl := Option.some.inj H
        go_enter Try.func90, Try.ntmps90
        go_wp2
        go_ret
        exact ⟨by first | rfl | (simp; done) | (simp [*]; done), by repeat (first | exact Drawn0.refl _ | apply Drawn0.step)⟩
      · rw [if_neg c5] at H
        exact absurd H (by simp)
    · rw [if_neg c4] at H
      exact absurd H (by simp)
  · rw [if_neg c3] at H
    have c3b0 : decide ((a1.size : Int) ≤ (a0.size : Int)) = false := decide_eq_false c3
    have c3b1 : decide (a1.size ≤ a0.size) = false := decide_eq_false (fun h => c3 (Int.ofNat_le.mpr h))
    clear c3
    obtain rfl := Option.some.inj H
    go_enter Try.func90, Try.ntmps90
    go_wp2
    go_ret
    exact ⟨by first | rfl | (simp; done) | (simp [*]; done), by repeat (first | exact Drawn0.refl _ | apply Drawn0.step)⟩
def stringslite_CutPrefix.f (a0 : ByteArray) (a1 : ByteArray) : Option (ByteArray × Bool) := (stringslite_HasPrefix.f a0 a1).bind fun t133 => (if t133 = true then (if 0 ≤ (a1.size : Int) then (if (a1.size : Int) ≤ (a0.size : Int) then (some (a0.extract a1.size a0.size, true)) else (none)) else (none)) else (some (a0, false)))
set_option maxHeartbeats 8000000 in
set_option maxRecDepth 100000 in
theorem stringslite_CutPrefix.calls (a0 : ByteArray) (a1 : ByteArray) (r1 : ByteArray) (r2 : Bool) (w : World) (h : stringslite_CutPrefix.f a0 a1 = some (r1, r2)) :
    Calls Try.prog 76 #[.string a0, .string a1] w fun e w' => e = .returned (.tuple #[.string r1, .bool r2]) ∧ Drawn0 w w' := by
  have H : ((stringslite_HasPrefix.f a0 a1).bind fun t133 => (if t133 = true then (if 0 ≤ (a1.size : Int) then (if (a1.size : Int) ≤ (a0.size : Int) then (some (a0.extract a1.size a0.size, true)) else (none)) else (none)) else (some (a0, false)))) = some (r1, r2) := h
  clear h
  replace H := Option.bind_eq_some_iff.mp H
  obtain ⟨t133, A30, H⟩ := H
  replace H : (if t133 = true then (if 0 ≤ (a1.size : Int) then (if (a1.size : Int) ≤ (a0.size : Int) then (some (a0.extract a1.size a0.size, true)) else (none)) else (none)) else (some (a0, false))) = some (r1, r2) := H
  have A3 := Aside0.mk A30
  clear A30
  by_cases c4 : t133 = true
  · subst c4
    have H1 : (if 0 ≤ (a1.size : Int) then (if (a1.size : Int) ≤ (a0.size : Int) then (some (a0.extract a1.size a0.size, true)) else (none)) else (none)) = some (r1, r2) := by rw [if_pos rfl] at H; exact H
    clear H
    have H := H1
    clear H1
    by_cases c5 : 0 ≤ (a1.size : Int)
    · rw [if_pos c5] at H
      have c5b0 := eq_true c5
      have c5b1 : decide (0 ≤ (a1.size : Int)) = true := decide_eq_true c5
      clear c5
      by_cases c6 : (a1.size : Int) ≤ (a0.size : Int)
      · rw [if_pos c6] at H
        have c6b0 := eq_true c6
        have c6b1 : decide ((a1.size : Int) ≤ (a0.size : Int)) = true := decide_eq_true c6
        clear c6
        simp only [Option.some.injEq, Prod.mk.injEq] at H
        obtain ⟨rfl, rfl⟩ := H
        go_enter Try.func76, Try.ntmps76
        go_wp2_with (first | ((with_reducible refine gate_callee (f := 90) rfl ?_); refine goesL_ (some 8) rfl rfl Try.func90 (by kernel_rfl) rfl #[.string a0, .string a1] rfl (by (try simp only [List.map_toArray, List.map_cons, List.map_nil]); first | done | rfl | (simp only [List.length_drop, List.length_take]; rfl)) ?_; (with_reducible refine (stringslite_HasPrefix.calls a0 a1 true _ A3.out).mono ?_); rintro e w' ⟨rfl, ⟨nd, rfl⟩⟩; refine ⟨_, rfl, ?_⟩))
        go_ret2
        exact ⟨by first | rfl | (simp; done) | (simp [*]; done), by repeat (first | exact Drawn0.refl _ | apply Drawn0.step)⟩
      · rw [if_neg c6] at H
        exact absurd H (by simp)
    · rw [if_neg c5] at H
      exact absurd H (by simp)
  · replace c4 := Bool.eq_false_iff.mpr c4
    subst c4
    have H1 : (some (a0, false)) = some (r1, r2) := by rw [if_neg (show ¬ (false = true) by decide)] at H; exact H
    clear H
    have H := H1
    clear H1
    simp only [Option.some.injEq, Prod.mk.injEq] at H
    obtain ⟨rfl, rfl⟩ := H
    go_enter Try.func76, Try.ntmps76
    go_wp2_with (first | ((with_reducible refine gate_callee (f := 90) rfl ?_); refine goesL_ (some 8) rfl rfl Try.func90 (by kernel_rfl) rfl #[.string a0, .string a1] rfl (by (try simp only [List.map_toArray, List.map_cons, List.map_nil]); first | done | rfl | (simp only [List.length_drop, List.length_take]; rfl)) ?_; (with_reducible refine (stringslite_HasPrefix.calls a0 a1 false _ A3.out).mono ?_); rintro e w' ⟨rfl, ⟨nd, rfl⟩⟩; refine ⟨_, rfl, ?_⟩))
    go_ret2
    exact ⟨by first | rfl | (simp; done) | (simp [*]; done), by repeat (first | exact Drawn0.refl _ | apply Drawn0.step)⟩
def strings_CutPrefix.f (a0 : ByteArray) (a1 : ByteArray) : Option (ByteArray × Bool) := (stringslite_CutPrefix.f a0 a1).bind fun bt134 => (some (bt134.1, bt134.2))
set_option maxHeartbeats 8000000 in
set_option maxRecDepth 100000 in
theorem strings_CutPrefix.calls (a0 : ByteArray) (a1 : ByteArray) (r1 : ByteArray) (r2 : Bool) (w : World) (h : strings_CutPrefix.f a0 a1 = some (r1, r2)) :
    Calls Try.prog 45 #[.string a0, .string a1] w fun e w' => e = .returned (.tuple #[.string r1, .bool r2]) ∧ Drawn0 w w' := by
  have H : ((stringslite_CutPrefix.f a0 a1).bind fun bt134 => (some (bt134.1, bt134.2))) = some (r1, r2) := h
  clear h
  replace H := Option.bind_eq_some_iff.mp H
  obtain ⟨⟨t134, t135⟩, A30, H⟩ := H
  replace H : (some (t134, t135)) = some (r1, r2) := H
  have A3 := Aside0.mk A30
  clear A30
  simp only [Option.some.injEq, Prod.mk.injEq] at H
  obtain ⟨rfl, rfl⟩ := H
  go_enter Try.func45, Try.ntmps45
  go_wp2_with (first | ((with_reducible refine gate_callee (f := 76) rfl ?_); refine goesL_ (some 8) rfl rfl Try.func76 (by kernel_rfl) rfl #[.string a0, .string a1] rfl (by (try simp only [List.map_toArray, List.map_cons, List.map_nil]); first | done | rfl | (simp only [List.length_drop, List.length_take]; rfl)) ?_; (with_reducible refine (stringslite_CutPrefix.calls a0 a1 t134 t135 _ A3.out).mono ?_); rintro e w' ⟨rfl, ⟨nd, rfl⟩⟩; refine ⟨_, rfl, ?_⟩))
  go_ret2
  exact ⟨by first | rfl | (simp; done) | (simp [*]; done), by repeat (first | exact Drawn0.refl _ | apply Drawn0.step)⟩
def chunk_Version.f (a0 : ByteArray) : Option (Int × Int) := (strings_CutPrefix.f a0 (⟨#[66, 78, 83, 73]⟩ : ByteArray)).bind fun bt136 => (if bt136.2 = true then (if bt136.1.toList = ([] : List UInt8) then (some (0, 2)) else (if 0 < (bt136.1.size : Int) then (some (wrap64 (bt bt136.1 0), 0)) else (none))) else (some (0, 7)))
set_option maxHeartbeats 8000000 in
set_option maxRecDepth 100000 in
theorem chunk_Version.calls (a0 : ByteArray) (r1 : Int) (r2 : Int) (w : World) (h : chunk_Version.f a0 = some (r1, r2)) :
    Calls Try.prog 17 #[.string a0] w fun e w' => e = .returned (.tuple #[.int .i64 r1, .int .i64 r2]) ∧ Drawn0 w w' := by
  have H : ((strings_CutPrefix.f a0 (⟨#[66, 78, 83, 73]⟩ : ByteArray)).bind fun bt136 => (if bt136.2 = true then (if bt136.1.toList = ([] : List UInt8) then (some (0, 2)) else (if 0 < (bt136.1.size : Int) then (some (wrap64 (bt bt136.1 0), 0)) else (none))) else (some (0, 7)))) = some (r1, r2) := h
  clear h
  replace H := Option.bind_eq_some_iff.mp H
  obtain ⟨⟨t136, t137⟩, A20, H⟩ := H
  replace H : (if t137 = true then (if t136.toList = ([] : List UInt8) then (some (0, 2)) else (if 0 < (t136.size : Int) then (some (wrap64 (bt t136 0), 0)) else (none))) else (some (0, 7))) = some (r1, r2) := H
  have A2 := Aside0.mk A20
  clear A20
  by_cases c3 : t137 = true
  · subst c3
    have H1 : (if t136.toList = ([] : List UInt8) then (some (0, 2)) else (if 0 < (t136.size : Int) then (some (wrap64 (bt t136 0), 0)) else (none))) = some (r1, r2) := by rw [if_pos rfl] at H; exact H
    clear H
    have H := H1
    clear H1
    by_cases c4 : t136.toList = ([] : List UInt8)
    · rw [if_pos c4] at H
      have c4b0 : (t136.toList == ([] : List UInt8)) = true := beq_iff_eq.mpr c4
      have c4b1 : (t136.toList != ([] : List UInt8)) = false := bne_eq_false_iff_eq.mpr c4
      clear c4
      simp only [Option.some.injEq, Prod.mk.injEq] at H
      obtain ⟨rfl, rfl⟩ := H
      go_enter Try.func17, Try.ntmps17
      go_wp2_with (first | ((with_reducible refine gate_callee (f := 45) rfl ?_); refine goesL_ (some 8) rfl rfl Try.func45 (by kernel_rfl) rfl #[.string a0, .string (⟨#[66, 78, 83, 73]⟩ : ByteArray)] rfl (by (try simp only [List.map_toArray, List.map_cons, List.map_nil]); first | done | rfl | (simp only [List.length_drop, List.length_take]; rfl)) ?_; (with_reducible refine (strings_CutPrefix.calls a0 (⟨#[66, 78, 83, 73]⟩ : ByteArray) t136 true _ A2.out).mono ?_); rintro e w' ⟨rfl, ⟨nd, rfl⟩⟩; refine ⟨_, rfl, ?_⟩))
      go_ret2
      exact ⟨by first | rfl | (simp; done) | (simp [*]; done), by repeat (first | exact Drawn0.refl _ | apply Drawn0.step)⟩
    · rw [if_neg c4] at H
      have c4b0 : (t136.toList == ([] : List UInt8)) = false := beq_eq_false_iff_ne.mpr c4
      have c4b1 : (t136.toList != ([] : List UInt8)) = true := bne_iff_ne.mpr c4
      by_cases c5 : 0 < (t136.size : Int)
      · rw [if_pos c5] at H
        have c5b0 : decide (0 < (t136.size : Int)) = true := decide_eq_true c5
        have c5b1 : decide (0 < t136.size) = true := decide_eq_true (by omega)
        clear c5
        simp only [Option.some.injEq, Prod.mk.injEq] at H
        obtain ⟨rfl, rfl⟩ := H
        go_enter Try.func17, Try.ntmps17
        go_wp2_with (first | ((with_reducible refine gate_callee (f := 45) rfl ?_); refine goesL_ (some 8) rfl rfl Try.func45 (by kernel_rfl) rfl #[.string a0, .string (⟨#[66, 78, 83, 73]⟩ : ByteArray)] rfl (by (try simp only [List.map_toArray, List.map_cons, List.map_nil]); first | done | rfl | (simp only [List.length_drop, List.length_take]; rfl)) ?_; (with_reducible refine (strings_CutPrefix.calls a0 (⟨#[66, 78, 83, 73]⟩ : ByteArray) t136 true _ A2.out).mono ?_); rintro e w' ⟨rfl, ⟨nd, rfl⟩⟩; refine ⟨_, rfl, ?_⟩; have p6 : 0 ≤ (0 : Int) := (by omega); have q6 : 0 < t136.size := (by have : (0 : Int) < (t136.size : Int) := of_decide_eq_true (by first | (with_reducible assumption) | assumption); omega); have hx6 : ∀ h : 0 < t136.size, ((t136[0]'h).toNat : Int) = bt t136 0 := bt_at t136 0; clear p6; have qi6 : (0 < (t136.size : Int)) = True := eq_true (of_decide_eq_true (by first | (with_reducible assumption) | assumption)); replace q6 := eq_true q6))
        go_ret2
        exact ⟨by first | rfl | (simp; done) | (simp [*]; done), by repeat (first | exact Drawn0.refl _ | apply Drawn0.step)⟩
      · rw [if_neg c5] at H
        exact absurd H (by simp)
  · replace c3 := Bool.eq_false_iff.mpr c3
    subst c3
    have H1 : (some (0, 7)) = some (r1, r2) := by rw [if_neg (show ¬ (false = true) by decide)] at H; exact H
    clear H
    have H := H1
    clear H1
    simp only [Option.some.injEq, Prod.mk.injEq] at H
    obtain ⟨rfl, rfl⟩ := H
    go_enter Try.func17, Try.ntmps17
    go_wp2_with (first | ((with_reducible refine gate_callee (f := 45) rfl ?_); refine goesL_ (some 8) rfl rfl Try.func45 (by kernel_rfl) rfl #[.string a0, .string (⟨#[66, 78, 83, 73]⟩ : ByteArray)] rfl (by (try simp only [List.map_toArray, List.map_cons, List.map_nil]); first | done | rfl | (simp only [List.length_drop, List.length_take]; rfl)) ?_; (with_reducible refine (strings_CutPrefix.calls a0 (⟨#[66, 78, 83, 73]⟩ : ByteArray) t136 false _ A2.out).mono ?_); rintro e w' ⟨rfl, ⟨nd, rfl⟩⟩; refine ⟨_, rfl, ?_⟩))
    go_ret2
    exact ⟨by first | rfl | (simp; done) | (simp [*]; done), by repeat (first | exact Drawn0.refl _ | apply Drawn0.step)⟩
end Go.Proofs.Ytfgnjndfnijjoaa.Print
end
section
namespace Go.Proofs.Ytfgnjndfnijjoaa.Print
open Go.RowKit Go.Proofs.YtfgnjndfnijjoaaW.PrintWords Go.Proofs.YtfgnjndfnijjoaaW.PrintLast Go.Proofs.YtfgnjndfnijjoaaW.PrintMore
attribute [local go_sem] max2_int min2_int max_two min_two max_three min_three max_four min_four
attribute [local go_sem] run_store_float
set_option linter.unusedVariables false
set_option linter.unusedSimpArgs false
def IsS85 (w0 W : World) (g : Nat) (f0 : ByteArray) (f1 : Int) : Prop := W.heap[g]? = some (.cells #[.string f0, .int .i64 f1] 85 (0, 0)) ∧ w0.heap.size ≤ g
theorem IsS85.grown {w0 W : World} {g : Nat} {f0 : ByteArray} {f1 : Int} {W1 : World} {row : Option Nat} (h : IsS85 w0 W g f0 f1) (hw : W.grownBy W1 row) (hne : some g ≠ row) : IsS85 w0 W1 g f0 f1 := by
  obtain ⟨hb, hg⟩ := h
  exact ⟨blk_grown hb hw hne, hg⟩
theorem IsS85.fresh {w0 W : World} {g : Nat} {f0 : ByteArray} {f1 : Int} (h : IsS85 w0 W g f0 f1) : ∀ k, W.heap.size ≤ k → k ≠ g := by
  obtain ⟨hb, hg⟩ := h
  exact Kd.freshB hb
theorem IsS85.kept {w0 W : World} {g : Nat} {f0 : ByteArray} {f1 : Int} {W1 : World} {S : Nat → Prop} (h : IsS85 w0 W g f0 f1) (hk : Kept W W1 S) (hne : ¬ S g) : IsS85 w0 W1 g f0 f1 := by
  obtain ⟨hb, hg⟩ := h
  exact ⟨blk_kept hb hk hne, hg⟩
theorem IsS85.below {w0 W : World} {g : Nat} {f0 : ByteArray} {f1 : Int} {W1 : World} (h : IsS85 w0 W g f0 f1) (hw : Below W.heap.size W W1) : IsS85 w0 W1 g f0 f1 := h.grown (grown_of_below hw none) (by simp)
theorem IsS85.alloc {w0 W : World} {g : Nat} {f0 : ByteArray} {f1 : Int} (h : IsS85 w0 W g f0 f1) (o : Obj) : IsS85 w0 (W.alloc o) g f0 f1 := h.below (below_alloc (Below.refl _ _) o)
theorem IsS85.drewN {w0 W : World} {g : Nat} {f0 : ByteArray} {f1 : Int} (h : IsS85 w0 W g f0 f1) (m : Nat) : IsS85 w0 (W.drewN m) g f0 f1 := h
theorem IsS85.drew {w0 W : World} {g : Nat} {f0 : ByteArray} {f1 : Int} (h : IsS85 w0 W g f0 f1) : IsS85 w0 W.drew g f0 f1 := h
theorem IsS85.at_ {w0 W : World} {g : Nat} {f0 : ByteArray} {f1 : Int} {w' : World} {m : Nat} (hq : W.drewN m = w') (h : IsS85 w0 W g f0 f1) : IsS85 w0 w' g f0 f1 := by subst hq; exact IsS85.drewN h m
theorem IsS85.apart {w0 W : World} {g : Nat} {f0 : ByteArray} {f1 : Int} {α : Type} {d : Kd α} {e : Nat} {base : Nat} {ok : Nat → Prop} {v : Value} {xs : List α} (h : IsS85 w0 W g f0 f1) (ho : d.R e W base ok v xs) (ht : ∀ q, q ∈ e :: d.E → q ≠ 85) : d.R e W base (fun k => ok k ∧ k ≠ g) v xs := by
  obtain ⟨hb, hg⟩ := h
  exact Kd.R_types ho hb ht
theorem IsS85.own_ne {w0 W : World} {g : Nat} {f0 : ByteArray} {f1 : Int} {α : Type} {d : Kd α} {e : Nat} {base : Nat} {ok : Nat → Prop} {v : Value} {xs : List α} (h : IsS85 w0 W g f0 f1) (ho : d.R e W base ok v xs) (ht : e ≠ 85) : some g ≠ v.ownBlock := by
  obtain ⟨hb, hg⟩ := h
  exact Kd.R_ne ho hb ht
theorem IsS85.lt {w0 W : World} {g : Nat} {f0 : ByteArray} {f1 : Int} (h : IsS85 w0 W g f0 f1) : g < W.heap.size := by
  obtain ⟨hb, hg⟩ := h
  exact blk_lt hb
theorem IsS85.ge {w0 W : World} {g : Nat} {f0 : ByteArray} {f1 : Int} (h : IsS85 w0 W g f0 f1) : w0.heap.size ≤ g := by
  obtain ⟨hb, hg⟩ := h
  exact hg
theorem IsS85.far {w0 W : World} {g : Nat} {f0 : ByteArray} {f1 : Int} {p : Addr} (h : IsS85 w0 W g f0 f1) (hne : g ≠ p.block) (u : Value) : IsS85 w0 (W.setCell p u) g f0 f1 := by
  obtain ⟨hb, hg⟩ := h
  exact ⟨blk_far hb hne u, hg⟩
theorem cellS85_0 {W : World} {g : Nat} {f0 : ByteArray} {f1 : Int} (h : W.heap[g]? = some (.cells #[.string f0, .int .i64 f1] 85 (0, 0))) : W.cell? ⟨g, 0, none⟩ = some (.string f0) := (blk_cell h 0).trans rfl
theorem IsS85.set_0 {w0 W : World} {g : Nat} {f0 : ByteArray} {f1 : Int} (h : IsS85 w0 W g f0 f1) (x : ByteArray) : IsS85 w0 (W.setCell ⟨g, 0, none⟩ (.string x)) g x f1 := by
  obtain ⟨hb, hg⟩ := h
  exact ⟨by simpa using blk_set hb 0 (.string x), hg⟩
theorem cellS85_1 {W : World} {g : Nat} {f0 : ByteArray} {f1 : Int} (h : W.heap[g]? = some (.cells #[.string f0, .int .i64 f1] 85 (0, 0))) : W.cell? ⟨g, 1, none⟩ = some (.int .i64 f1) := (blk_cell h 1).trans rfl
theorem IsS85.set_1 {w0 W : World} {g : Nat} {f0 : ByteArray} {f1 : Int} (h : IsS85 w0 W g f0 f1) (x : Int) : IsS85 w0 (W.setCell ⟨g, 1, none⟩ (.int .i64 x)) g f0 x := by
  obtain ⟨hb, hg⟩ := h
  exact ⟨by simpa using blk_set hb 1 (.int .i64 x), hg⟩
def pack_New.f (a0 : ByteArray) : Option (ByteArray × Int) := some (a0, 0)
set_option maxHeartbeats 8000000 in
set_option maxRecDepth 100000 in
theorem pack_New.calls (a0 : ByteArray) (r1 : ByteArray) (r2 : Int) (w0 w : World) (hB : Below w0.heap.size w0 w) (h : pack_New.f a0 = some (r1, r2)) :
    Calls Try.prog 29 #[.string a0] w fun e w' => ∃ g_ : Nat, e = .returned (.pointer (some ⟨g_, 0, none⟩)) ∧ IsS85 w0 w' g_ r1 r2 ∧ Below w0.heap.size w0 w' ∧ Below w.heap.size w w' := by
  have hu85 := Try.underlying85
  have HBW := Aside0.mk (Below.refl w.heap.size w)
  have HW0 := Aside0.mk hB.size
  have HB := Aside0.mk hB
  clear hB
  have H : (some (a0, 0)) = some (r1, r2) := h
  clear h
  simp only [Option.some.injEq, Prod.mk.injEq] at H
  obtain ⟨rfl, rfl⟩ := H
  go_enter Try.func29, Try.ntmps29
  go_wp2_with (first | ((with_reducible refine gate_dst (N := 5) rfl ?_); refine box_event ?hg (N := 5) ?hd (cs := #[.string a0, .int .i64 0]) (t := 85) ?hr ?_; (case hd => rfl); (case hg => rfl); (case hr => first | (go_simp; done) | (go_simp; rfl)); intro gb138 hg w2 hbox hb; have n0_ := Aside0.mk (below_step HBW.out hb); have n1_ := Aside0.mk (below_step (by repeat (first | (with_reducible first | exact HB.out | apply below_alloc | apply pw_below_drewN | apply below_drew1) | exact HB.out)) hb); have n2_ := Aside0.mk (hbox); have n3_ := Aside0.mk ((by rw [hg]; exact (below_size (by repeat (first | (with_reducible first | exact HBW.out | apply below_alloc | apply pw_below_drewN | apply below_drew1) | exact HBW.out))) : w.heap.size ≤ gb138)); have n4_ := Aside0.mk ((Nat.le_trans HW0.out (by rw [hg]; exact (below_size (by repeat (first | (with_reducible first | exact HBW.out | apply below_alloc | apply pw_below_drewN | apply below_drew1) | exact HBW.out))) : w.heap.size ≤ gb138) : w0.heap.size ≤ gb138)); clear HBW; clear HB; have HBW := n0_; have HB := n1_; have BK138 := n2_; have GW138 := n3_; have GE138 := n4_; clear n0_ n1_ n2_ n3_ n4_; clear hb hbox hg))
  go_ret
  exact ⟨_, rfl, (show IsS85 w0 _ gb138 a0 0 from ⟨by (with_reducible repeat (first | refine blk_drewN ?_ _ | refine blk_drew ?_ | refine blk_alloc ?_ _)); exact BK138.out, GE138.out⟩), by repeat (first | (with_reducible first | exact HB.out | apply below_alloc | apply pw_below_drewN | apply below_drew1 | refine below_set ?_ GE138.out) | exact HB.out), by repeat (first | (with_reducible first | exact HBW.out | apply below_alloc | apply pw_below_drewN | apply below_drew1 | refine below_set ?_ GW138.out) | exact HBW.out)⟩
theorem must_ok (c : Int) (w : World) : Calls Try.prog 57 #[.bool true, .int .i64 c] w fun e w' => e = .returned (.tuple #[]) ∧ w' = w := by
  go_enter Try.func57, Try.ntmps57
  go_wp2
  go_end0
  exact ⟨rfl, rfl⟩
set_option maxRecDepth 100000 in
theorem must_no (c : Int) (w : World) : Calls Try.prog 57 #[.bool false, .int .i64 c] w fun e w' => e = .panicked [{ v := .iface 106 (.int .i64 c), recovered := false }] ∧ w' = w := by
  go_enter Try.func57, Try.ntmps57
  go_wp2
  exact ⟨rfl, rfl, rfl⟩
theorem catch_idle (p : Addr) (w : World) :
    CallsD Try.prog 82 #[.pointer (some p)] .returning w fun e u' w' => e = .returned (.tuple #[]) ∧ u' = .returning ∧ w' = w := by
  refine callsD_of_wpS Try.func82 rfl fun c₀ cs hu => ?_
  apply wpS_seq
  apply wpS_region
  simp [wpOpsS, go_sem, recoverD, hu, Try.ntmps82, Exit.thenS]
  apply wpS_seq
  apply wpS_region
  simp [wpOpsS, go_sem, Exit.thenS]
  refine wpS_cond (t := false) (by simp [Act.eval, Array.replicate]) ?_
  simp only [Bool.false_eq_true, if_false]
  refine wpS_of_wp (wp_skip ?_)
  cases c₀
  simp_all [bodyPostS, results, Try.results82]
set_option maxRecDepth 100000 in
theorem catch_panics (p : Addr) (g : Nat) (c : Int) (s : ByteArray) (older : List PanicEntry) (w : World) (hp : w.cell? p = some (.pointer (some ⟨g, 0, none⟩)))
    (hI : w.heap[g]? = some (.cells #[.string s, .int .i64 0] 85 (0, 0))) (hne : p.block ≠ g) :
    CallsD Try.prog 82 #[.pointer (some p)] (.panicking ({ v := .iface 106 (.int .i64 c), recovered := false } :: older)) w fun e u' w' => e = .returned (.tuple #[]) ∧ u' = .panicking ({ v := .iface 106 (.int .i64 c), recovered := true } :: older) ∧ ∃ n, w' = (w.drewN n).setCell ⟨g, 1, none⟩ (.int .i64 c) := by
  refine callsD_of_wpS Try.func82 rfl fun c₀ cs hu => ?_
  apply wpS_seq
  apply wpS_region
  simp [wpOpsS, go_sem, recoverD, hu, Try.ntmps82, Exit.thenS]
  apply wpS_seq
  apply wpS_region
  simp [wpOpsS, go_sem, Exit.thenS]
  refine wpS_cond (t := true) (by simp [Act.eval, Array.replicate]) ?_
  simp only [if_true]
  refine wpS_of_wp ?_
  have h1 := cellS85_1 hI
  have h2 := blk_frozen hI 1
  have hta : ∀ (v : Value) (W : World), (Instr.typeAssert (.iface 106 v) 20 106 false).run Try.prog W = .ok v W := fun v W => by rfl
  clear hI
  have hk : ∀ v, ((w.setCell ⟨g, 1, none⟩ v).drew).cell? p = some (.pointer (some ⟨g, 0, none⟩)) := by
    intro v
    have hne' : (⟨g, 1, none⟩ : Addr) ≠ p := by rintro rfl; exact hne rfl
    simp [World.cell?_setCell_other _ _ _ _ hne', hp]
  go_region_held3 (fun W => W.cell? p = some (.pointer (some ⟨g, 0, none⟩))) (first | go_keep | exact hk _) (first | fail)
  cases c₀
  simp_all [bodyPostS, results, Try.results82]
  exact ⟨1, rfl⟩
set_option maxHeartbeats 8000000 in
set_option maxRecDepth 100000 in
theorem read_ret (g : Nat) (s s' : ByteArray) (c : Nat) (caps : Array Value) (w : World) (R : World → Prop)
    (hI : w.heap[g]? = some (.cells #[.string s, .int .i64 0] 85 (0, 0)))
    (hc : ∀ n, Calls Try.prog c (#[.string s] ++ caps) ((w.alloc (.cells #[.pointer (some ⟨g, 0, none⟩)] 57)).drewN n) fun e w' => e = .returned (.string s') ∧ R w')
    (hcf : ∀ W, (callFunc c (#[.string s] ++ caps)).run Try.prog W = .ok (.enter c (#[.string s] ++ caps)) W)
    (hR : ∀ w', R w' → w'.heap[g]? = some (.cells #[.string s, .int .i64 0] 85 (0, 0)) ∧ w'.heap[w.heap.size]? = some (.cells #[.pointer (some ⟨g, 0, none⟩)] 57 (0, 0))) :
    Calls Try.prog 55 #[.pointer (some ⟨g, 0, none⟩), .func (.func c) #[] caps] w fun e w' => e = .returned (.tuple #[]) ∧ ∃ w1, R w1 ∧ w' = w1.setCell ⟨g, 0, none⟩ (.string s') := by
  have hmf : ∀ (fn : Fn) (first cap : Array Value) (w : World), (Instr.makeFunc fn first cap).run Try.prog w = .ok (.func fn first cap) w := fun _ _ _ _ => rfl
  have HI := blk_alloc hI (.cells #[.pointer (some ⟨g, 0, none⟩)] 57)
  have HG := Aside0.mk (blk_lt hI)
  have h0 := cellS85_0 HI
  have h1 := cellS85_1 HI
  have HH := Aside0.mk HI
  clear HI hI
  have HC := Aside0.mk hc
  have HR := Aside0.mk hR
  clear hc hR
  go_enter_defers Try.func55, Try.ntmps55
  go_wp2_with fail
  refine wp_region_noPanic ?_
  refine wp_region_held_drew (S := fun W => W.cell? ⟨w.heap.size, 0, none⟩ = some (.pointer (some ⟨g, 0, none⟩))) (by kernel_rfl) (by go_simp) (fun hHeld => ?_)
  refine wpAnyH_take (i := 0) (v := .pointer (some ⟨g, 0, none⟩)) rfl (by kernel_rfl) (by kernel_rfl) (by kernel_rfl) (fun _ _ _ h => h) (Or.inl ⟨by rfl, fun W hS => by (try dsimp only at hS); go_simp⟩) hHeld ?_
  simp only [Act.put, List.setIfInBounds_toArray, List.set_cons_zero, List.set_cons_succ]
  refine wpAnyH_take (i := 1) (v := .func (.func c) #[] caps) rfl (by kernel_rfl) (by kernel_rfl) (by kernel_rfl) (fun _ _ _ h => h) (Or.inl ⟨by rfl, fun W hS => by go_simp⟩) hHeld ?_
  simp only [Act.put, List.setIfInBounds_toArray, List.set_cons_zero, List.set_cons_succ]
  refine wpAnyH_take (i := 2) (v := .pointer (some ⟨g, 0, none⟩)) rfl (by kernel_rfl) (by kernel_rfl) (by kernel_rfl) (fun _ _ _ h => h) (Or.inl ⟨by rfl, fun W hS => by (try dsimp only at hS); go_simp⟩) hHeld ?_
  simp only [Act.put, List.setIfInBounds_toArray, List.set_cons_zero, List.set_cons_succ]
  refine wpAnyH_take (i := 3) (v := .pointer (some ⟨g, 0, none⟩)) rfl (by kernel_rfl) (by kernel_rfl) (by kernel_rfl) (fun _ _ _ h => h) (Or.inl ⟨by rfl, fun W hS => by go_simp⟩) hHeld ?_
  simp only [Act.put, List.setIfInBounds_toArray, List.set_cons_zero, List.set_cons_succ]
  refine wpAnyH_take (i := 4) (v := .pointer (some ⟨g, 0, none⟩)) rfl (by kernel_rfl) (by kernel_rfl) (by kernel_rfl) (fun _ _ _ h => h) (Or.inl ⟨by rfl, fun W hS => by go_simp⟩) hHeld ?_
  simp only [Act.put, List.setIfInBounds_toArray, List.set_cons_zero, List.set_cons_succ]
  refine wpAnyH_ready (rs := [5]) (by kernel_rfl) (by simp) (AllReadyH.cons rfl (fun K hK => ?_) AllReadyH.nil)
  go_simp
  refine hK.out _ _ hHeld (fun hHeld => ?_)
  clear hK K
  (try simp only [Act.put, List.setIfInBounds_toArray, List.set_cons_zero, List.set_cons_succ])
  refine wpAnyH_ready (rs := [6]) (by kernel_rfl) (by simp) (AllReadyH.cons rfl (fun K hK => ?_) AllReadyH.nil)
  go_simp
  refine Calls.mono (HC.out 1) ?_
  rintro e w' ⟨rfl, hq⟩
  have hz := HR.out _ hq
  have hbox : w'.cell? ⟨w.heap.size, 0, none⟩ = some (.pointer (some ⟨g, 0, none⟩)) := (blk_cell hz.2 0).trans rfl
  have hg0 := cellS85_0 hz.1
  have hgf := blk_frozen hz.1 0
  have hbox2 : ∀ v, (w'.setCell ⟨g, 0, none⟩ v).cell? ⟨w.heap.size, 0, none⟩ = some (.pointer (some ⟨g, 0, none⟩)) := fun v => by
    have hne : (⟨g, 0, none⟩ : Addr) ≠ ⟨w.heap.size, 0, none⟩ := by
      intro h
      injection h with h
      have := HG.out
      omega
    rw [World.cell?_setCell_other _ _ _ _ hne]
    exact hbox
  refine hK.out _ _ hbox (fun hHeld => ?_)
  clear hK K
  (try simp only [Act.put, List.setIfInBounds_toArray, List.set_cons_zero, List.set_cons_succ])
  refine wpAnyH_take (i := 7) (v := .pointer (some ⟨g, 0, none⟩)) rfl (by kernel_rfl) (by kernel_rfl) (by kernel_rfl) (fun _ _ _ h => h) (Or.inl ⟨by rfl, fun W hS => by go_simp⟩) hHeld ?_
  simp only [Act.put, List.setIfInBounds_toArray, List.set_cons_zero, List.set_cons_succ]
  refine wpAnyH_take (i := 8) (v := .pointer (some ⟨g, 0, none⟩)) rfl (by kernel_rfl) (by kernel_rfl) (by kernel_rfl) (fun _ _ _ h => h) (Or.inl ⟨by rfl, fun W hS => by go_simp⟩) hHeld ?_
  simp only [Act.put, List.setIfInBounds_toArray, List.set_cons_zero, List.set_cons_succ]
  refine wpAnyH_ready (rs := [9]) (by kernel_rfl) (by simp) (AllReadyH.cons rfl (fun K hK => ?_) AllReadyH.nil)
  go_simp
  refine hK.out _ _ (hbox2 _) (fun hHeld => ?_)
  clear hK K
  refine wpAnyH_done (by kernel_rfl) ?_ _
  all_goals
    refine NoPanic.normal ?_
    refine leaves_cons (f := 82) (args := #[.pointer (some ⟨w.heap.size, 0, none⟩)]) (by simp) (by simp [go_sem]) ?_
    refine (catch_idle ⟨w.heap.size, 0, none⟩ _).mono ?_
    rintro e u' w'' ⟨rfl, rfl, rfl⟩
    simp [Leaves, settle, results, Try.results55, go_sem]
    exact ⟨w', hq, rfl⟩
def PanicR (D : List Deferred) (R : List PanicEntry → World → Prop) : Exit → Act → World → Prop
  | .panic ch, a, w => a.defers = D ∧ R ch w
  | _, _, _ => False
set_option maxHeartbeats 8000000 in
set_option maxRecDepth 100000 in
theorem read_panics (g : Nat) (s : ByteArray) (c : Nat) (k : Int) (caps : Array Value) (w : World) (R : World → Prop)
    (hI : w.heap[g]? = some (.cells #[.string s, .int .i64 0] 85 (0, 0)))
    (hc : ∀ n, Calls Try.prog c (#[.string s] ++ caps) ((w.alloc (.cells #[.pointer (some ⟨g, 0, none⟩)] 57)).drewN n) fun e w' => e = .panicked [{ v := .iface 106 (.int .i64 k), recovered := false }] ∧ R w')
    (hcf : ∀ W, (callFunc c (#[.string s] ++ caps)).run Try.prog W = .ok (.enter c (#[.string s] ++ caps)) W)
    (hR : ∀ w', R w' → w'.heap[g]? = some (.cells #[.string s, .int .i64 0] 85 (0, 0)) ∧ w'.heap[w.heap.size]? = some (.cells #[.pointer (some ⟨g, 0, none⟩)] 57 (0, 0))) :
    Calls Try.prog 55 #[.pointer (some ⟨g, 0, none⟩), .func (.func c) #[] caps] w fun e w' => e = .returned (.tuple #[]) ∧ ∃ w1 n, R w1 ∧ w' = (World.drewN w1 n).setCell ⟨g, 1, none⟩ (.int .i64 k) := by
  have hmf : ∀ (fn : Fn) (first cap : Array Value) (w : World), (Instr.makeFunc fn first cap).run Try.prog w = .ok (.func fn first cap) w := fun _ _ _ _ => rfl
  have HI := blk_alloc hI (.cells #[.pointer (some ⟨g, 0, none⟩)] 57)
  have HG := Aside0.mk (blk_lt hI)
  have h0 := cellS85_0 HI
  have h1 := cellS85_1 HI
  have HH := Aside0.mk HI
  clear HI hI
  have HC := Aside0.mk hc
  have HR := Aside0.mk hR
  clear hc hR
  go_enter_defers Try.func55, Try.ntmps55
  go_wp2_with fail
  refine Code.wp_mono (Q := PanicR [{ target := .fn (.func 82) #[.pointer (some ⟨w.heap.size, 0, none⟩)], args := #[] }] fun ch w' => ch = [{ v := .iface 106 (.int .i64 k), recovered := false }] ∧ R w') ?_ ?_
  · intro e a w1 hq
    cases e with
    | panic ch =>
      obtain ⟨hd, rfl, hr⟩ := hq
      obtain ⟨tmps, defers⟩ := a
      simp only at hd
      subst hd
      have hz := HR.out _ hr
      refine leaves_cons (f := 82) (args := #[.pointer (some ⟨w.heap.size, 0, none⟩)]) (by simp) (by simp [go_sem]) ?_
      refine (catch_panics ⟨w.heap.size, 0, none⟩ g k s [] _ ((blk_cell hz.2 0).trans rfl) hz.1 (by have := HG.out; simp; omega)).mono ?_
      rintro e u' w'' ⟨rfl, rfl, n, rfl⟩
      simp [Leaves, settle, results, Try.results55, go_sem]
      exact ⟨w1, hr, n, rfl⟩
    | _ => exact hq.elim
  refine wp_region_held_drew (S := fun W => W.cell? ⟨w.heap.size, 0, none⟩ = some (.pointer (some ⟨g, 0, none⟩))) (by kernel_rfl) (by go_simp) (fun hHeld => ?_)
  refine wpAnyH_take (i := 0) (v := .pointer (some ⟨g, 0, none⟩)) rfl (by kernel_rfl) (by kernel_rfl) (by kernel_rfl) (fun _ _ _ h => h) (Or.inl ⟨by rfl, fun W hS => by (try dsimp only at hS); go_simp⟩) hHeld ?_
  simp only [Act.put, List.setIfInBounds_toArray, List.set_cons_zero, List.set_cons_succ]
  refine wpAnyH_take (i := 1) (v := .func (.func c) #[] caps) rfl (by kernel_rfl) (by kernel_rfl) (by kernel_rfl) (fun _ _ _ h => h) (Or.inl ⟨by rfl, fun W hS => by go_simp⟩) hHeld ?_
  simp only [Act.put, List.setIfInBounds_toArray, List.set_cons_zero, List.set_cons_succ]
  refine wpAnyH_take (i := 2) (v := .pointer (some ⟨g, 0, none⟩)) rfl (by kernel_rfl) (by kernel_rfl) (by kernel_rfl) (fun _ _ _ h => h) (Or.inl ⟨by rfl, fun W hS => by (try dsimp only at hS); go_simp⟩) hHeld ?_
  simp only [Act.put, List.setIfInBounds_toArray, List.set_cons_zero, List.set_cons_succ]
  refine wpAnyH_take (i := 3) (v := .pointer (some ⟨g, 0, none⟩)) rfl (by kernel_rfl) (by kernel_rfl) (by kernel_rfl) (fun _ _ _ h => h) (Or.inl ⟨by rfl, fun W hS => by go_simp⟩) hHeld ?_
  simp only [Act.put, List.setIfInBounds_toArray, List.set_cons_zero, List.set_cons_succ]
  refine wpAnyH_take (i := 4) (v := .pointer (some ⟨g, 0, none⟩)) rfl (by kernel_rfl) (by kernel_rfl) (by kernel_rfl) (fun _ _ _ h => h) (Or.inl ⟨by rfl, fun W hS => by go_simp⟩) hHeld ?_
  simp only [Act.put, List.setIfInBounds_toArray, List.set_cons_zero, List.set_cons_succ]
  refine wpAnyH_ready (rs := [5]) (by kernel_rfl) (by simp) (AllReadyH.cons rfl (fun K hK => ?_) AllReadyH.nil)
  go_simp
  refine hK.out _ _ hHeld (fun hHeld => ?_)
  clear hK K
  (try simp only [Act.put, List.setIfInBounds_toArray, List.set_cons_zero, List.set_cons_succ])
  refine wpAnyH_ready (rs := [6]) (by kernel_rfl) (by simp) (AllReadyH.cons rfl (fun K hK => ?_) AllReadyH.nil)
  go_simp
  refine Calls.mono (HC.out 1) ?_
  rintro e w' ⟨rfl, hq⟩
  exact ⟨rfl, rfl, hq⟩
theorem take1_ok (s x : ByteArray) (n : Int) (pn po : Addr) (w : World) (hn : w.cell? pn = some (.int .i64 n)) (ho : w.cell? po = some (.string x)) (hf : w.frozen? po = false) (hne : po ≠ pn) (h0 : 0 ≤ n) (h1 : n ≤ s.size) :
    Calls Try.prog 84 #[.string s, .pointer (some pn), .pointer (some po)] w fun e w' => e = .returned (.string (s.extract n.toNat s.size)) ∧ w' = w.setCell po (.string (s.extract 0 n.toNat)) := by
  have h0b := decide_eq_true h0
  have h1b := decide_eq_true h1
  have h0t := eq_true h0
  have h1t := eq_true h1
  have hk : ∀ v, (w.setCell po v).cell? pn = some (.int .i64 n) := fun v => by rw [World.cell?_setCell_other _ _ _ _ hne]; exact hn
  go_enter Try.func84, Try.ntmps84
  go_wp2_with (go_at_call 57; refine (must_ok _ _).mono ?_; rintro e w' ⟨rfl, rfl⟩)
  go_ret
  exact ⟨rfl, rfl⟩
theorem take1_no (s x : ByteArray) (n : Int) (pn po : Addr) (w : World) (hn : w.cell? pn = some (.int .i64 n)) (h : n < 0 ∨ s.size < n) :
    Calls Try.prog 84 #[.string s, .pointer (some pn), .pointer (some po)] w fun e w' => e = .panicked [{ v := .iface 106 (.int .i64 2), recovered := false }] ∧ w' = w := by
  by_cases h0 : 0 ≤ n
  · have h1 : ¬ n ≤ s.size := by omega
    have h0b := decide_eq_true h0
    have h1b := decide_eq_false h1
    clear h h0 h1
    go_enter Try.func84, Try.ntmps84
    go_wp2_with (go_at_call 57; refine (must_no _ _).mono ?_; rintro e w' ⟨rfl, rfl⟩)
    exact ⟨rfl, rfl, rfl⟩
  · have h0b := decide_eq_false h0
    clear h h0
    go_enter Try.func84, Try.ntmps84
    go_wp2_with (go_at_call 57; refine (must_no _ _).mono ?_; rintro e w' ⟨rfl, rfl⟩)
    exact ⟨rfl, rfl, rfl⟩
def numL (s : ByteArray) : Nat → Int → Int → Int × Int × Int
  | 0, _, _ => (3, 0, 0)
  | k + 1, i, n => if i < s.size then
      (if (i < 9 ∨ bt s i ≤ 1) ∧ (i = 0 ∨ bt s i ≠ 0) then
        (if bt s i < 128 then (0, n + bt s i % 128 * 128 ^ i.toNat, i + 1) else numL s k (i + 1) (n + bt s i % 128 * 128 ^ i.toNat))
      else (3, 0, 0)) else (2, 0, 0)
theorem pack_wraps_u64 (n : Int) (h₀ : 0 ≤ n) (h₁ : n < 2 ^ 64) : IntKind.u64.wrap n = n := by simp [IntKind.wrap, IntKind.bits, IntKind.signed]; omega
theorem pack_bits_comm (k : IntKind) (x y : Int) : bits .or k x y = bits .or k y x := by simp only [bits]; rw [BitVec.or_comm]
theorem pack_andNot (b : Int) (h0 : 0 ≤ b) (h1 : b ≤ 255) : bits .andNot .u8 b 128 = b % 128 := by
  obtain ⟨n, rfl⟩ := Int.eq_ofNat_of_zero_le h0
  have hn : n < 256 := by omega
  have key : ∀ m : Fin 256, bits .andNot .u8 ((m.val : Nat) : Int) 128 = ((m.val : Nat) : Int) % 128 := by decide +kernel
  exact key ⟨n, hn⟩
theorem pack_pow (i : Int) : (2 : Int) ^ (7 * i).toNat = 128 ^ i.toNat := by
  rw [show (7 * i).toNat = 7 * i.toNat by omega, Int.pow_mul]; rfl
theorem pack_pow9 (i : Int) (hi : i ≤ 9) : (128 : Int) ^ i.toNat ≤ 2 ^ 63 ∧ 0 < (128 : Int) ^ i.toNat := by
  have h : i.toNat ≤ 9 := by omega
  generalize i.toNat = j at h
  rcases j with _ | _ | _ | _ | _ | _ | _ | _ | _ | _ | j
  all_goals first | omega | (constructor <;> decide)
theorem pack_pow8 (i : Int) (hi : i ≤ 8) : (128 : Int) ^ i.toNat ≤ 2 ^ 56 := by
  have h : i.toNat ≤ 8 := by omega
  generalize i.toNat = j at h
  rcases j with _ | _ | _ | _ | _ | _ | _ | _ | _ | j
  all_goals first | omega | decide
theorem num_step (i b n : Int) (h0 : 0 ≤ i) (h9 : i ≤ 9) (hb0 : 0 ≤ b) (hb : b ≤ 255) (h1 : i < 9 ∨ b ≤ 1) (hn0 : 0 ≤ n) (hn : n < 128 ^ i.toNat) :
    bits .or .u64 n (IntKind.u64.wrap (IntKind.u64.wrap (bits .andNot .u8 b 128) * 2 ^ (7 * i).toNat)) = n + b % 128 * 128 ^ i.toNat ∧ n + b % 128 * 128 ^ i.toNat < 2 ^ 64 := by
  rw [pack_andNot b hb0 hb, pack_pow, pack_wraps_u64 (b % 128) (by omega) (by omega)]
  obtain ⟨hp, hq⟩ := pack_pow9 i h9
  have hm : b % 128 * 128 ^ i.toNat ≤ 2 ^ 64 - 128 ^ i.toNat := by
    rcases h1 with h1 | h1
    · have h8 := pack_pow8 i (by omega)
      have : b % 128 * 128 ^ i.toNat ≤ 127 * 128 ^ i.toNat := Int.mul_le_mul_of_nonneg_right (by omega) (by omega)
      omega
    · have : b % 128 * 128 ^ i.toNat ≤ 1 * 128 ^ i.toNat := Int.mul_le_mul_of_nonneg_right (by omega) (by omega)
      omega
  have hm0 : 0 ≤ b % 128 * 128 ^ i.toNat := Int.mul_nonneg (by omega) (by omega)
  rw [pack_wraps_u64 (b % 128 * 128 ^ i.toNat) hm0 (by omega)]
  refine ⟨?_, by omega⟩
  rw [pack_bits_comm, bits_join .u64 64 (by decide) pack_wraps_u64 (7 * i).toNat _ _ hm0 ?_ (by omega) hn0 (by rw [pack_pow]; exact hn) (by omega)]
  · omega
  · rw [pack_pow]; exact Int.mul_emod_left _ _
def NumEnd (R : Int × Int × Int) (s : ByteArray) (po : Addr) (w : World) (e : Ending) (w' : World) : Prop :=
      (R.1 = 0 ∧ e = .returned (.string (s.extract R.2.2.toNat s.size)) ∧ w' = w.setCell po (.int .u64 R.2.1)) ∨
      (R.1 ≠ 0 ∧ e = .panicked [{ v := .iface 106 (.int .i64 R.1), recovered := false }] ∧ w' = w)
set_option maxHeartbeats 8000000 in
set_option maxRecDepth 100000 in
theorem num1_any (s : ByteArray) (po : Addr) (w : World) (x : Int) (hs : s.size ≤ 9223372036854775000) (ho : w.cell? po = some (.int .u64 x)) (hf : w.frozen? po = false) :
    Calls Try.prog 56 #[.string s, .pointer (some po)] w (NumEnd (numL s 10 0 0) s po w) := by
  obtain ⟨R, hR⟩ : ∃ R, numL s 10 0 0 = R := ⟨_, rfl⟩
  rw [hR]
  have HR0 := Aside0.mk hR
  clear hR
  go_enter Try.func56, Try.ntmps56
  go_wp2
  go_loopg [4, 5] 10 (fun gk v4 v5 w' => ∃ (i : Int) (n : Int), v4 = .int .u64 n ∧ v5 = .int .i64 i ∧ 0 ≤ i ∧ i + gk = 10 ∧ 1 ≤ gk ∧ Aside0 (0 ≤ n ∧ n < 128 ^ i.toNat) ∧ Aside0 (numL s gk i n = R) ∧ i ≤ s.size ∧ w = w')
  case atStart => exact ⟨0, 0, rfl, rfl, by omega, by omega, by omega, ⟨by decide⟩, HR0, by omega, rfl⟩
  case round =>
    clear HR0
    obtain ⟨i, n, rfl, rfl, hi0, hi9, hgk, HN, HA, his, rfl⟩ := hrel
    have p7 := eq_true hi0
    have hr := bt_range s i
    cases gk with
    | zero => omega
    | succ k =>
    by_cases hlt : i < s.size
    · have hlt' : decide (i < (s.size : Int)) = true := decide_eq_true hlt
      have q7 := eq_true hlt
      have hx := bt_at s i
      by_cases hok : (i < 9 ∨ bt s i ≤ 1) ∧ (i = 0 ∨ bt s i ≠ 0)
      · obtain ⟨hs1, hs2⟩ := num_step i (bt s i) n hi0 (by omega) hr.1 hr.2 hok.1 HN.out.1 HN.out.2
        have HM := Aside0.mk hs2
        clear hs2
        have hA := HA.out
        simp only [numL, if_pos hlt, if_pos hok] at hA
        by_cases hb : bt s i < 128
        · have hb' := decide_eq_true hb
          rw [if_pos hb] at hA
          have HR := Aside0.mk hA
          clear hA HA
          have s1 := eq_true (show 0 ≤ i + 1 by omega)
          have s2 := eq_true (show i + 1 ≤ (s.size : Int) by omega)
          obtain ⟨hok1, hok2⟩ := hok
          have c : (decide (i < 9) = true ∧ (i == 0) = true) ∨ (decide (i < 9) = true ∧ (i == 0) = false ∧ (bt s i != 0) = true) ∨ (decide (i < 9) = false ∧ decide (bt s i ≤ 1) = true ∧ (i == 0) = false ∧ (bt s i != 0) = true) := by
            simp only [decide_eq_false_iff_not, decide_eq_true_eq, beq_eq_false_iff_ne, bne_iff_ne, beq_iff_eq]
            omega
          clear hok1 hok2
          rcases c with ⟨c1, c2⟩ | ⟨c1, c2, c3⟩ | ⟨c1, c2, c3, c4⟩
          all_goals
            go_wp2_with (go_at_call 57; refine (must_ok _ _).mono ?_; rintro e w' ⟨rfl, rfl⟩)
            go_ret
            exact .inl ⟨by rw [← HR.out], by rw [← HR.out]; rfl, by rw [← HR.out]⟩
        · have hb' := decide_eq_false hb
          rw [if_neg hb] at hA
          have HA' := Aside0.mk hA
          clear hA HA
          obtain ⟨hok1, hok2⟩ := hok
          have h9 : i < 9 := by omega
          have c1 := decide_eq_true h9
          have HP : Aside0 (0 ≤ n + bt s i % 128 * 128 ^ i.toNat ∧ n + bt s i % 128 * 128 ^ i.toNat < 128 ^ (i + 1).toNat) := by
            obtain ⟨hp, hq⟩ := pack_pow9 i (by omega)
            have hn := HN.out
            have hm0 : 0 ≤ bt s i % 128 * 128 ^ i.toNat := Int.mul_nonneg (by omega) (by omega)
            have : bt s i % 128 * 128 ^ i.toNat ≤ 127 * 128 ^ i.toNat := Int.mul_le_mul_of_nonneg_right (by omega) (by omega)
            rw [show (i + 1).toNat = i.toNat + 1 by omega, Int.pow_succ]
            exact ⟨by omega, by omega⟩
          by_cases h0 : i = 0
          all_goals
            first | have c2 := beq_iff_eq.mpr h0 | (have c2 := beq_eq_false_iff_ne.mpr h0; have c2b := bne_iff_ne.mpr (show bt s i ≠ 0 by omega))
            clear hok1 hok2 h0
            go_wp2_with (go_at_call 57; refine (must_ok _ _).mono ?_; rintro e w' ⟨rfl, rfl⟩)
            go_roundg k
            case measure => omega
            case rel => exact ⟨i + 1, n + bt s i % 128 * 128 ^ i.toNat, by first | rfl | simp, rfl, by omega, by omega, by omega, HP, HA', by omega, rfl⟩
      · have hA := HA.out
        simp only [numL, if_pos hlt, if_neg hok] at hA
        have HR := Aside0.mk hA
        clear hA HA
        have c : (decide (i < 9) = false ∧ decide (bt s i ≤ 1) = false) ∨ (decide (i < 9) = true ∧ (i == 0) = false ∧ (bt s i != 0) = false) ∨ (decide (i < 9) = false ∧ decide (bt s i ≤ 1) = true ∧ (i == 0) = false ∧ (bt s i != 0) = false) := by
          simp only [decide_eq_false_iff_not, decide_eq_true_eq, beq_eq_false_iff_ne, bne_eq_false_iff_eq]
          omega
        clear hok
        rcases c with ⟨c1, c2⟩ | ⟨c1, c2, c3⟩ | ⟨c1, c2, c3, c4⟩
        all_goals
          go_wp2_with (first | (go_at_call 57; (with_reducible refine (must_ok 2 _).mono ?_); rintro e w' ⟨rfl, rfl⟩) | (go_at_call 57; (with_reducible refine (must_no 3 _).mono ?_); rintro e w' ⟨rfl, rfl⟩))
          exact ⟨rfl, .inr ⟨by rw [← HR.out]; decide, by rw [← HR.out], rfl⟩⟩
    · have hlt' : decide (i < (s.size : Int)) = false := decide_eq_false hlt
      have hA := HA.out
      simp only [numL, if_neg hlt] at hA
      have HR := Aside0.mk hA
      clear hA HA
      go_wp2_with (go_at_call 57; refine (must_no _ _).mono ?_; rintro e w' ⟨rfl, rfl⟩)
      exact ⟨rfl, .inr ⟨by rw [← HR.out]; decide, by rw [← HR.out], rfl⟩⟩
set_option maxRecDepth 100000 in
theorem read_skip (g : Nat) (s : ByteArray) (c : Nat) (k : Int) (caps : Array Value) (w : World) (hk : k ≠ 0)
    (hI : w.heap[g]? = some (.cells #[.string s, .int .i64 k] 85 (0, 0))) :
    Calls Try.prog 55 #[.pointer (some ⟨g, 0, none⟩), .func (.func c) #[] caps] w fun e w' => e = .returned (.tuple #[]) ∧ w' = w.alloc (.cells #[.pointer (some ⟨g, 0, none⟩)] 57) := by
  have HI := blk_alloc hI (.cells #[.pointer (some ⟨g, 0, none⟩)] 57)
  have h1 := cellS85_1 HI
  have hk' := bne_iff_ne.mpr hk
  clear HI hI hk
  go_enter_defers Try.func55, Try.ntmps55
  go_wp2_with fail
  exact ⟨_, by simp [results, Try.results55, go_sem], rfl, rfl⟩
def pack_Reader_Num.f (s : ByteArray) (k : Int) : Option (Int × ByteArray × Int) :=
  if s.size ≤ 9223372036854775000 then
    (if k = 0 then (if (numL s 10 0 0).1 = 0 then some ((numL s 10 0 0).2.1, s.extract (numL s 10 0 0).2.2.toNat s.size, 0) else some (0, s, (numL s 10 0 0).1))
    else some (0, s, k)) else none
theorem num_fn38 (args : Array Value) (W : World) : (callFunc 56 args).run Try.prog W = .ok (.enter 56 args) W := by
  simp [go_sem, Try.func56]
set_option maxHeartbeats 8000000 in
set_option maxRecDepth 100000 in
theorem pack_Reader_Num.calls (g : Nat) (s0_0 : ByteArray) (s0_1 : Int) (r1 : Int) (r2 : ByteArray) (r3 : Int) (w0 w : World) (hI : IsS85 w0 w g s0_0 s0_1) (hB : Below w0.heap.size w0 w) (h : pack_Reader_Num.f s0_0 s0_1 = some (r1, r2, r3)) :
    Calls Try.prog 30 #[.pointer (some ⟨g, 0, none⟩)] w fun e w' => e = .returned (.int .u64 r1) ∧ IsS85 w0 w' g r2 r3 ∧ Below w0.heap.size w0 w' ∧ KeepBut w w' g none := by
  have hmf : ∀ (fn : Fn) (first cap : Array Value) (w : World), (Instr.makeFunc fn first cap).run Try.prog w = .ok (.func fn first cap) w := fun _ _ _ _ => rfl
  obtain ⟨hg, hge⟩ := hI
  have hlt := blk_lt hg
  have hg1 := blk_alloc hg (.cells #[.int .u64 0] 52)
  have hsz := hB.size
  unfold pack_Reader_Num.f at h
  by_cases hs : s0_0.size ≤ 9223372036854775000
  · rw [if_pos hs] at h
    by_cases hk : s0_1 = 0
    · subst hk
      rw [if_pos rfl] at h
      by_cases hR : (numL s0_0 10 0 0).1 = 0
      · rw [if_pos hR] at h
        simp only [Option.some.injEq, Prod.mk.injEq] at h
        obtain ⟨rfl, rfl, rfl⟩ := h
        have ho : (w.alloc (.cells #[.int .u64 0] 52)).heap[w.heap.size]? = some (.cells #[.int .u64 0] 52 (0, 0)) := blk_new w _
        have ho1 := blk_alloc ho (.cells #[.pointer (some ⟨g, 0, none⟩)] 57)
        have hg2 := blk_alloc hg1 (.cells #[.pointer (some ⟨g, 0, none⟩)] 57)
        have hb2 := blk_new (w.alloc (.cells #[.int .u64 0] 52)) (.cells #[.pointer (some ⟨g, 0, none⟩)] 57)
        have hsA : (w.alloc (.cells #[.int .u64 0] 52)).heap.size = w.heap.size + 1 := by simp
        have hnum := fun n => num1_any s0_0 ⟨w.heap.size, 0, none⟩ (((w.alloc (.cells #[.int .u64 0] 52)).alloc (.cells #[.pointer (some ⟨g, 0, none⟩)] 57)).drewN n) 0 hs ((blk_cell (blk_drewN ho1 n) 0).trans rfl) (blk_frozen (blk_drewN ho1 n) 0)
        have HC := Aside0.mk (read_ret g s0_0 (s0_0.extract (numL s0_0 10 0 0).2.2.toNat s0_0.size) 56 #[.pointer (some ⟨w.heap.size, 0, none⟩)] (w.alloc (.cells #[.int .u64 0] 52))
          (fun w' => ∃ n, w' = ((((w.alloc (.cells #[.int .u64 0] 52)).alloc (.cells #[.pointer (some ⟨g, 0, none⟩)] 57)).drewN n).setCell ⟨w.heap.size, 0, none⟩ (.int .u64 (numL s0_0 10 0 0).2.1))) hg1
          (fun n => (hnum n).mono (by
            rintro e w' (⟨_, rfl, rfl⟩ | ⟨hne, _⟩)
            · exact ⟨rfl, n, rfl⟩
            · exact absurd hR hne))
          (num_fn38 _) (by
            rintro w' ⟨n, rfl⟩
            exact ⟨blk_far (blk_drewN hg2 n) (by simp; omega) _, blk_far (blk_drewN hb2 n) (by simp) _⟩))
        have HB := Aside0.mk hB
        have HG := Aside0.mk hg2
        have HO := Aside0.mk ho1
        have HL := Aside0.mk hlt
        have HE := Aside0.mk hge
        have HZ := Aside0.mk hsz
        clear hB hg hg1 ho ho1 hg2 hb2 hnum hsA hlt hge hsz
        go_enter Try.func30, Try.ntmps30
        go_wp2_with (go_at_call 55; refine HC.out.mono ?_; rintro e w' ⟨rfl, w1, ⟨n, rfl⟩, hw⟩; have hcell : w'.cell? ⟨w.heap.size, 0, none⟩ = some (.int .u64 (numL s0_0 10 0 0).2.1) := (by have := HL.out; rw [hw]; exact (blk_cell (blk_far (blk_set (blk_drewN HO.out n) 0 _) (by simp; omega) _) 0).trans rfl); have HW := Aside0.mk hw; clear hw)
        go_ret
        have hw := HW.out
        have hlt := HL.out
        refine ⟨rfl, ⟨?_, HE.out⟩, ?_, ?_⟩ <;> rw [hw]
        · exact blk_put (blk_far (blk_drewN HG.out n) (by simp; omega) _) 0 _ rfl
        · exact below_set (below_set (pw_below_drewN (below_alloc (below_alloc HB.out _) _) n) HZ.out) HE.out
        · exact KeepBut.set_ (keep_far (keep_drewN (keep_alloc (keep_alloc (KeepBut.refl _ _ _) _) _) n) (Nat.le_refl _) _) 0 _
      · rw [if_neg hR] at h
        simp only [Option.some.injEq, Prod.mk.injEq] at h
        obtain ⟨rfl, rfl, rfl⟩ := h
        have ho : (w.alloc (.cells #[.int .u64 0] 52)).heap[w.heap.size]? = some (.cells #[.int .u64 0] 52 (0, 0)) := blk_new w _
        have ho1 := blk_alloc ho (.cells #[.pointer (some ⟨g, 0, none⟩)] 57)
        have hg2 := blk_alloc hg1 (.cells #[.pointer (some ⟨g, 0, none⟩)] 57)
        have hb2 := blk_new (w.alloc (.cells #[.int .u64 0] 52)) (.cells #[.pointer (some ⟨g, 0, none⟩)] 57)
        have hsA : (w.alloc (.cells #[.int .u64 0] 52)).heap.size = w.heap.size + 1 := by simp
        have hnum := fun n => num1_any s0_0 ⟨w.heap.size, 0, none⟩ (((w.alloc (.cells #[.int .u64 0] 52)).alloc (.cells #[.pointer (some ⟨g, 0, none⟩)] 57)).drewN n) 0 hs ((blk_cell (blk_drewN ho1 n) 0).trans rfl) (blk_frozen (blk_drewN ho1 n) 0)
        have HC := Aside0.mk (read_panics g s0_0 56 (numL s0_0 10 0 0).1 #[.pointer (some ⟨w.heap.size, 0, none⟩)] (w.alloc (.cells #[.int .u64 0] 52))
          (fun w' => ∃ n, w' = ((w.alloc (.cells #[.int .u64 0] 52)).alloc (.cells #[.pointer (some ⟨g, 0, none⟩)] 57)).drewN n) hg1
          (fun n => (hnum n).mono (by
            rintro e w' (⟨hne, _⟩ | ⟨_, rfl, rfl⟩)
            · exact absurd hne hR
            · exact ⟨rfl, n, rfl⟩))
          (num_fn38 _) (by
            rintro w' ⟨n, rfl⟩
            exact ⟨blk_drewN hg2 n, blk_drewN hb2 n⟩))
        have HB := Aside0.mk hB
        have HG := Aside0.mk hg2
        have HO := Aside0.mk ho1
        have HL := Aside0.mk hlt
        have HE := Aside0.mk hge
        have HZ := Aside0.mk hsz
        clear hB hg hg1 ho ho1 hg2 hb2 hnum hsA hlt hge hsz
        go_enter Try.func30, Try.ntmps30
        go_wp2_with (go_at_call 55; refine HC.out.mono ?_; rintro e w' ⟨rfl, w1, m, ⟨n, rfl⟩, hw⟩; have hcell : w'.cell? ⟨w.heap.size, 0, none⟩ = some (.int .u64 0) := (by have := HL.out; rw [hw]; exact (blk_cell (blk_far (blk_drewN (blk_drewN HO.out n) m) (by simp; omega) _) 0).trans rfl); have HW := Aside0.mk hw; clear hw)
        go_ret
        have hw := HW.out
        have hlt := HL.out
        refine ⟨rfl, ⟨?_, HE.out⟩, ?_, ?_⟩ <;> rw [hw]
        · exact blk_put (blk_drewN (blk_drewN HG.out n) m) 1 _ rfl
        · exact below_set (pw_below_drewN (pw_below_drewN (below_alloc (below_alloc HB.out _) _) n) m) HE.out
        · exact KeepBut.set_ (keep_drewN (keep_drewN (keep_alloc (keep_alloc (KeepBut.refl _ _ _) _) _) n) m) 1 _
    · rw [if_neg hk] at h
      simp only [Option.some.injEq, Prod.mk.injEq] at h
      obtain ⟨rfl, rfl, rfl⟩ := h
      have HB := Aside0.mk hB
      have HG := Aside0.mk hg
      have HG1 := Aside0.mk hg1
      have HC := Aside0.mk (read_skip g s0_0 56 s0_1 #[.pointer (some ⟨w.heap.size, 0, none⟩)] _ hk hg1)
      clear hB hg hg1
      go_enter Try.func30, Try.ntmps30
      go_wp2_with (go_at_call 55; refine HC.out.mono ?_; rintro e w' ⟨rfl, rfl⟩)
      go_ret
      refine ⟨by simp, ⟨?_, hge⟩, ?_, ?_⟩
      · exact blk_alloc HG1.out _
      · exact below_alloc (below_alloc HB.out _) _
      · exact keep_alloc (keep_alloc (KeepBut.refl _ _ _) _) _
  · rw [if_neg hs] at h
    cases h
theorem pack_Reader_Err_any (g : Nat) (s : ByteArray) (k : Int) (w : World) (hI : w.heap[g]? = some (.cells #[.string s, .int .i64 k] 85 (0, 0))) :
    Calls Try.prog 31 #[.pointer (some ⟨g, 0, none⟩)] w fun e w' => e = .returned (.int .i64 k) ∧ w' = w := by
  have h1 := cellS85_1 hI
  go_enter Try.func31, Try.ntmps31
  go_wp2
  go_ret
  exact ⟨rfl, rfl⟩
def pack_Reader_Err.f (s : ByteArray) (k : Int) : Option (Int × ByteArray × Int) := some (k, s, k)
theorem pack_Reader_Err.calls (g : Nat) (s0_0 : ByteArray) (s0_1 : Int) (r1 : Int) (r2 : ByteArray) (r3 : Int) (w0 w : World) (hI : IsS85 w0 w g s0_0 s0_1) (hB : Below w0.heap.size w0 w) (h : pack_Reader_Err.f s0_0 s0_1 = some (r1, r2, r3)) :
    Calls Try.prog 31 #[.pointer (some ⟨g, 0, none⟩)] w fun e w' => e = .returned (.int .i64 r1) ∧ IsS85 w0 w' g r2 r3 ∧ Below w0.heap.size w0 w' ∧ KeepBut w w' g none := by
  simp only [pack_Reader_Err.f, Option.some.injEq, Prod.mk.injEq] at h
  obtain ⟨rfl, rfl, rfl⟩ := h
  refine (pack_Reader_Err_any g s0_0 s0_1 w hI.1).mono ?_
  rintro e w' ⟨rfl, rfl⟩
  exact ⟨rfl, hI, hB, KeepBut.refl _ _ _⟩
def rdFour.go : Nat → ByteArray → Int → Bool → List Int → Option (List Int × Bool × ByteArray × Int)
  | 0, s, e, well, xs => some (xs, well, s, e)
  | n + 1, s, e, well, xs => (pack_Reader_Num.f s e).bind fun r => rdFour.go n r.2.1 r.2.2 (well && decide (r.1 ≤ 9223372036854775807)) (xs ++ [wrap64 r.1])
def rdFour.f (s : ByteArray) (e : Int) : Option (List Int × Bool × ByteArray × Int) := rdFour.go 4 s e true []
theorem rdFour.len : ∀ n s e w xs r, rdFour.go n s e w xs = some r → r.1.length = n + xs.length
  | 0, s, e, w, xs, r, h => by
    unfold rdFour.go at h
    obtain rfl := Option.some.inj h
    simp
  | n + 1, s, e, w, xs, r, h => by
    unfold rdFour.go at h
    obtain ⟨q, _, h⟩ := Option.bind_eq_some_iff.mp h
    have := rdFour.len n _ _ _ _ _ h
    rw [this, List.length_append, List.length_singleton]
    omega
structure IsRd (w0 w : World) (gr gp : Nat) (S s : ByteArray) (e : Int) : Prop where
  mk :: (blk : w.heap[gr]? = some (.cells #[.pointer (some ⟨gp, 0, none⟩), .string S] 60 (0, 0))) (st : IsS85 w0 w gp s e)
theorem IsRd.ne {w0 w : World} {gr gp : Nat} {S s : ByteArray} {e : Int} (h : IsRd w0 w gr gp S s e) : gr ≠ gp := by
  intro he
  have h1 := h.st.1
  rw [← he, h.blk] at h1
  injection h1 with h1
  injection h1 with _ h1
  exact absurd h1 (by decide)
theorem IsRd.step {w0 w w' : World} {gr gp : Nat} {S s s' : ByteArray} {e e' : Int} (h : IsRd w0 w gr gp S s e) (hk : KeepBut w w' gp none) (h' : IsS85 w0 w' gp s' e') : IsRd w0 w' gr gp S s' e' :=
  ⟨hk.blk h.blk h.ne (by simp), h'⟩
theorem IsRd.below {w0 w w' : World} {gr gp : Nat} {S s : ByteArray} {e : Int} (h : IsRd w0 w gr gp S s e) (hb : Below w.heap.size w w') : IsRd w0 w' gr gp S s e :=
  ⟨blk_below h.blk hb, h.st.below hb⟩
theorem IsRd.far {w0 w : World} {gr gp g : Nat} {S s : ByteArray} {e : Int} (h : IsRd w0 w gr gp S s e) (h1 : gr ≠ g) (h2 : gp ≠ g) (j : Nat) (v : Value) : IsRd w0 (w.setCell ⟨g, j, none⟩ v) gr gp S s e :=
  ⟨blk_far h.blk h1 v, h.st.far h2 v⟩
set_option maxHeartbeats 8000000 in
set_option maxRecDepth 100000 in
theorem rdFour.calls (gr gp : Nat) (S s : ByteArray) (e : Int) (xs : List Int) (well : Bool) (s' : ByteArray) (e' : Int) (w0 w : World) (hI : IsRd w0 w gr gp S s e) (hB : Below w0.heap.size w0 w) (h : rdFour.f s e = some (xs, well, s', e')) :
    Calls Try.prog 58 #[.pointer (some ⟨gr, 0, none⟩)] w fun e_ w' => e_ = .returned (.tuple #[.agg (xs.map (Value.int .i64)).toArray, .bool well]) ∧ IsRd w0 w' gr gp S s' e' ∧ Below w0.heap.size w0 w' ∧ KeepBut w w' gp none := by
  have hu := Try.underlying60
  have hu2 := Try.underlying46
  have hw0 := hB.size
  have HW0 := Aside0.mk hw0
  have H := Aside0.mk h
  have HI := Aside0.mk hI
  have HB := Aside0.mk hB
  clear hI hB h hw0
  go_enter Try.func58, Try.ntmps58
  go_wp2
  have hA : ((w.alloc (.cells #[.int .i64 0, .int .i64 0, .int .i64 0, .int .i64 0] 46)).alloc (.cells #[.int .i64 0, .int .i64 0, .int .i64 0, .int .i64 0] 46)).heap[w.heap.size]? = some (.cells #[.int .i64 0, .int .i64 0, .int .i64 0, .int .i64 0] 46 (0, 0)) := blk_alloc (blk_new w _) _
  have h4 : ((w.alloc (.cells #[.int .i64 0, .int .i64 0, .int .i64 0, .int .i64 0] 46)).alloc (.cells #[.int .i64 0, .int .i64 0, .int .i64 0, .int .i64 0] 46)).heap[w.heap.size + 1]? = some (.cells #[.int .i64 0, .int .i64 0, .int .i64 0, .int .i64 0] 46 (0, 0)) := by
    have h := blk_new (w.alloc (.cells #[.int .i64 0, .int .i64 0, .int .i64 0, .int .i64 0] 46)) (.cells #[.int .i64 0, .int .i64 0, .int .i64 0, .int .i64 0] 46)
    rwa [World.size_alloc] at h
  have HI2 := Aside0.mk ((HI.out.below (below_alloc (Below.refl _ w) (.cells #[.int .i64 0, .int .i64 0, .int .i64 0, .int .i64 0] 46))).below (below_alloc (Below.refl _ _) (.cells #[.int .i64 0, .int .i64 0, .int .i64 0, .int .i64 0] 46)))
  have HB2 := Aside0.mk (below_alloc (below_alloc HB.out (.cells #[.int .i64 0, .int .i64 0, .int .i64 0, .int .i64 0] 46)) (.cells #[.int .i64 0, .int .i64 0, .int .i64 0, .int .i64 0] 46))
  have HK2 := Aside0.mk (keep_alloc (keep_alloc (KeepBut.refl w gp none) (.cells #[.int .i64 0, .int .i64 0, .int .i64 0, .int .i64 0] 46)) (.cells #[.int .i64 0, .int .i64 0, .int .i64 0, .int .i64 0] 46))
  have HG := Aside0.mk (show gr < w.heap.size ∧ gp < w.heap.size from ⟨blk_lt HI.out.blk, blk_lt HI.out.st.1⟩)
  obtain ⟨w2, hw2⟩ : ∃ W, W = ((w.alloc (.cells #[.int .i64 0, .int .i64 0, .int .i64 0, .int .i64 0] 46)).alloc (.cells #[.int .i64 0, .int .i64 0, .int .i64 0, .int .i64 0] 46)) := ⟨_, rfl⟩
  obtain ⟨g4, hg4⟩ : ∃ g4, g4 = w.heap.size + 1 := ⟨_, rfl⟩
  rw [← hw2] at hA h4 HI2 HB2 HK2 ⊢
  rw [← hg4] at h4 ⊢
  have HX := Aside0.mk hg4
  have HA := Aside0.mk hA
  have H4 := Aside0.mk h4
  clear hw2 hg4 hA h4 HB
  go_loopg [5, 8] 5 (fun kq v5 v8 w' => ∃ (i : Nat) (b : Bool) (s1 : ByteArray) (e1 : Int) (ys : List Int), v5 = .bool b ∧ v8 = .int .i64 (i : Int) ∧ Aside0 (i ≤ 4 ∧ kq + i = 5 ∧ ys.length = i) ∧ Aside0 (rdFour.go (4 - i) s1 e1 b ys = some (xs, well, s', e')) ∧ Aside0 (w'.heap[g4]? = some (.cells ((ys ++ List.replicate (4 - i) 0).map (Value.int .i64)).toArray 46 (0, 0))) ∧ Aside0 (w'.heap[w.heap.size]? = some (.cells #[.int .i64 0, .int .i64 0, .int .i64 0, .int .i64 0] 46 (0, 0))) ∧ Aside0 (IsRd w0 w' gr gp S s1 e1) ∧ Aside0 (Below w0.heap.size w0 w') ∧ Aside0 (KeepBut w w' gp none))
  case atStart => exact ⟨0, true, s, e, [], rfl, rfl, ⟨by omega, by omega, rfl⟩, H, H4, HA, HI2, HB2, HK2⟩
  case round =>
    clear H HA H4 HI2 HB2 HK2
    obtain ⟨i, b, s1, e1, ys, rfl, rfl, HK, HR, H4, HA, HI, HB, HKB⟩ := hrel
    by_cases hi : i < 4
    · cases gk with
      | zero => have := HK.out; exact absurd this (by omega)
      | succ k1 =>
        have c1 : decide ((i : Int) < 4) = true := decide_eq_true (by omega)
        have hR := HR.out
        rw [show 4 - i = (3 - i) + 1 by omega] at hR
        unfold rdFour.go at hR
        obtain ⟨⟨n1, s2, e2⟩, hn, hR⟩ := Option.bind_eq_some_iff.mp hR
        have HN := Aside0.mk hn
        have HR2 := Aside0.mk hR
        clear hn hR HR
        have hc0 := (blk_cell HI.out.blk 0).trans rfl
        have hne : g4 ≠ gp := by have := HX.out; have := HG.out; omega
        have hneA : w.heap.size ≠ gp := by have := HG.out; omega
        have hyl := HK.out
        have hcell : (((ys ++ List.replicate (4 - i) 0).map (Value.int .i64)).toArray)[i]? = some (.int .i64 0) := by
          rw [show 4 - i = (3 - i) + 1 by omega, List.replicate_succ]
          simp [← hyl.2.2]
        have HC := Aside0.mk hcell
        have hset : ((ys ++ List.replicate (4 - i) 0).map (Value.int .i64)).toArray.setIfInBounds i (.int .i64 (wrap64 n1)) = (((ys ++ [wrap64 n1]) ++ List.replicate (4 - (i + 1)) 0).map (Value.int .i64)).toArray := by
          rw [show 4 - i = (3 - i) + 1 by omega, show 4 - (i + 1) = 3 - i by omega, List.replicate_succ, ← hyl.2.2]
          simp [List.set_append]
        have HS := Aside0.mk hset
        clear hcell hset
        have hyl2 := Aside0.mk hyl
        clear hyl
        cases b
        all_goals
          go_wp2_with (go_at_call 30; (with_reducible refine (pack_Reader_Num.calls gp s1 e1 n1 s2 e2 w0 _ HI.out.st HB.out HN.out).mono ?_); rintro e w5 ⟨rfl, hi5, hb5, hk5⟩; have h45 := (hk5.2 g4 (blk_lt H4.out) hne (by simp)).trans H4.out; have hA5 := Aside0.mk ((hk5.2 _ (blk_lt HA.out) hneA (by simp)).trans HA.out); have hc4 := (blk_cell h45 i).trans HC.out; have hf4 := blk_frozen h45 i; have hI5 := Aside0.mk (HI.out.step hk5 hi5); have hB5 := Aside0.mk hb5; have hK5 := Aside0.mk (HKB.out.trans hk5 (.inl rfl)); have h45' := Aside0.mk h45; clear h45 hb5 hk5 hi5)
          go_roundg k1
          case measure => have := HK.out; omega
          case rel => exact ⟨i + 1, _, s2, e2, ys ++ [wrap64 n1], rfl, by simp [wrap64] <;> omega, ⟨by omega, by have := HK.out; omega, by have := HK.out; simp; omega⟩, ⟨by rw [show 4 - (i + 1) = 3 - i by omega]; exact HR2.out⟩, ⟨by rw [← HS.out]; exact blk_set h45'.out i _⟩, ⟨blk_far hA5.out (by have := HX.out; simp; omega) _⟩, ⟨hI5.out.far (by have := HX.out; have := HG.out; omega) (by have := HX.out; have := HG.out; omega) _ _⟩, ⟨hB5.out.setCell (p := ⟨g4, i, none⟩) (by have := HX.out; have := HW0.out; simp; omega) _⟩, ⟨⟨by have := hK5.out.1; simpa using this, fun k hk h1 h2 => (Below.heap_setCell w5 _ _ _ (by have := HX.out; simp only []; omega)).trans (hK5.out.2 k hk h1 h2)⟩⟩⟩
    · have c1 : decide ((i : Int) < 4) = false := decide_eq_false (by omega)
      have hR := HR.out
      obtain rfl : i = 4 := by have := HK.out; omega
      unfold rdFour.go at hR
      simp only [Nat.sub_self] at hR
      obtain ⟨rfl, rfl, rfl, rfl⟩ := by simpa using hR
      have h4 := H4.out
      simp only [Nat.sub_self, List.replicate_zero, List.append_nil] at h4
      obtain ⟨a, b0, c, d, rfl⟩ : ∃ a b0 c d, ys = [a, b0, c, d] := by
        have h := HK.out.2.2
        match ys, h with
        | [a, b0, c, d], _ => exact ⟨a, b0, c, d, rfl⟩
      have HA' := HA.out
      have k0 : wr.cell? ⟨g4, 0, none⟩ = some (.int .i64 a) := (blk_cell h4 0).trans rfl
      have k1 : wr.cell? ⟨g4, 1, none⟩ = some (.int .i64 b0) := (blk_cell h4 1).trans rfl
      have k2 : wr.cell? ⟨g4, 2, none⟩ = some (.int .i64 c) := (blk_cell h4 2).trans rfl
      have k3 : wr.cell? ⟨g4, 3, none⟩ = some (.int .i64 d) := (blk_cell h4 3).trans rfl
      obtain ⟨gA, hgA⟩ : ∃ gA, gA = w.heap.size := ⟨_, rfl⟩
      rw [← hgA] at HA' ⊢
      have B1 := blk_set HA' 0 (.int .i64 a)
      have B2 := blk_set B1 1 (.int .i64 b0)
      have B3 := blk_set B2 2 (.int .i64 c)
      have B4 := blk_set B3 3 (.int .i64 d)
      have f0 := blk_frozen HA' 0
      have f1 := blk_frozen B1 1
      have f2 := blk_frozen B2 2
      have f3 := blk_frozen B3 3
      have z0 := (blk_cell HA' 0).trans rfl
      have z1 := (blk_cell B1 1).trans rfl
      have z2 := (blk_cell B2 2).trans rfl
      have z3 := (blk_cell B3 3).trans rfl
      have y0 := (blk_cell B4 0).trans rfl
      have y1 := (blk_cell B4 1).trans rfl
      have y2 := (blk_cell B4 2).trans rfl
      have y3 := (blk_cell B4 3).trans rfl
      have HY := Aside0.mk hgA
      have HB4 := Aside0.mk B4
      have inf : (Try.prog.info? 46).map (·.size) = some 4 := by kernel_rfl
      have INF := Aside0.mk inf
      clear HR hR H4 B1 B2 B3 B4 hgA inf
      go_wp2
      refine bodyPost_ret (results_ct (p := 2) (u := 3) (ty := 46) rfl _ _ gA 46 _ (0, 0) _ rfl HB4.out hu2 rfl INF.out) rfl ?_
      have hx := HX.out
      have hy := HY.out
      have hgg := HG.out
      have hw0' := HW0.out
      have ge : w0.heap.size ≤ gA := by omega
      refine ⟨rfl, (((HI.out.far (by omega) (by omega) _ _).far (by omega) (by omega) _ _).far (by omega) (by omega) _ _).far (by omega) (by omega) _ _, ((((HB.out.setCell (p := ⟨gA, 0, none⟩) ge _).setCell (p := ⟨gA, 1, none⟩) ge _).setCell (p := ⟨gA, 2, none⟩) ge _).setCell (p := ⟨gA, 3, none⟩) ge _), by have := HKB.out.1; simpa using this, fun k hk h1 h2 => ?_⟩
      rw [Below.heap_setCell _ _ _ k (by show k ≠ gA; omega), Below.heap_setCell _ _ _ k (by show k ≠ gA; omega), Below.heap_setCell _ _ _ k (by show k ≠ gA; omega), Below.heap_setCell _ _ _ k (by show k ≠ gA; omega)]
      exact HKB.out.2 k hk h1 h2
theorem pack_Reader_Left_any (g : Nat) (s : ByteArray) (k : Int) (w : World) (hI : w.heap[g]? = some (.cells #[.string s, .int .i64 k] 85 (0, 0))) :
    Calls Try.prog 69 #[.pointer (some ⟨g, 0, none⟩)] w fun e w' => e = .returned (.int .i64 s.size) ∧ w' = w := by
  have h1 := cellS85_0 hI
  go_enter Try.func69, Try.ntmps69
  go_wp2
  go_ret
  exact ⟨rfl, rfl⟩
def pack_Reader_Left.f (s : ByteArray) (k : Int) : Option (Int × ByteArray × Int) := some ((s.size : Int), s, k)
theorem pack_Reader_Left.calls (g : Nat) (s0_0 : ByteArray) (s0_1 : Int) (r1 : Int) (r2 : ByteArray) (r3 : Int) (w0 w : World) (hI : IsS85 w0 w g s0_0 s0_1) (hB : Below w0.heap.size w0 w) (h : pack_Reader_Left.f s0_0 s0_1 = some (r1, r2, r3)) :
    Calls Try.prog 69 #[.pointer (some ⟨g, 0, none⟩)] w fun e w' => e = .returned (.int .i64 r1) ∧ IsS85 w0 w' g r2 r3 ∧ Below w0.heap.size w0 w' ∧ KeepBut w w' g none := by
  simp only [pack_Reader_Left.f, Option.some.injEq, Prod.mk.injEq] at h
  obtain ⟨rfl, rfl, rfl⟩ := h
  refine (pack_Reader_Left_any g s0_0 s0_1 w hI.1).mono ?_
  rintro e w' ⟨rfl, rfl⟩
  exact ⟨rfl, hI, hB, KeepBut.refl _ _ _⟩
set_option maxHeartbeats 8000000 in
set_option maxRecDepth 100000 in
theorem rdAt.calls (gr gp : Nat) (S s : ByteArray) (e : Int) (w0 w : World) (hI : IsRd w0 w gr gp S s e) :
    Calls Try.prog 59 #[.pointer (some ⟨gr, 0, none⟩)] w fun e_ w' => e_ = .returned (.int .i64 (wrap64 ((S.size : Int) - (s.size : Int)))) ∧ Below w.heap.size w w' := by
  have hu := Try.underlying60
  have HI := Aside0.mk hI
  have k0 := (blk_cell hI.blk 0).trans rfl
  have k1 := (blk_cell hI.blk 1).trans rfl
  clear hI
  go_enter Try.func59, Try.ntmps59
  go_wp2
  go_quiet (first | (go_at_call 69; exact Calls.quiet_of_same (pack_Reader_Left_any gp s e _ (by first | exact HI.out.st.1 | simpa using HI.out.st.1))))
  go_wp2
  go_ret
  exact ⟨rfl, pw_below_drewN (Below.refl _ _) _⟩
def pack_Reader_Take.f (s : ByteArray) (k : Int) (a1 : Int) : Option (ByteArray × ByteArray × Int) :=
  if k = 0 then (if 0 ≤ a1 ∧ a1 ≤ (s.size : Int) then some (s.extract 0 a1.toNat, s.extract a1.toNat s.size, 0) else some ((⟨#[]⟩ : ByteArray), s, 2)) else some ((⟨#[]⟩ : ByteArray), s, k)
theorem take_fn40 (args : Array Value) (W : World) : (callFunc 84 args).run Try.prog W = .ok (.enter 84 args) W := by
  simp [go_sem, Try.func84]
set_option maxHeartbeats 8000000 in
set_option maxRecDepth 100000 in
theorem pack_Reader_Take.calls (g : Nat) (s0_0 : ByteArray) (s0_1 : Int) (a1 : Int) (r1 : ByteArray) (r2 : ByteArray) (r3 : Int) (w0 w : World) (hI : IsS85 w0 w g s0_0 s0_1) (hB : Below w0.heap.size w0 w) (h : pack_Reader_Take.f s0_0 s0_1 a1 = some (r1, r2, r3)) :
    Calls Try.prog 61 #[.pointer (some ⟨g, 0, none⟩), .int .i64 a1] w fun e w' => e = .returned (.string r1) ∧ IsS85 w0 w' g r2 r3 ∧ Below w0.heap.size w0 w' ∧ KeepBut w w' g none := by
  have hmf : ∀ (fn : Fn) (first cap : Array Value) (w : World), (Instr.makeFunc fn first cap).run Try.prog w = .ok (.func fn first cap) w := fun _ _ _ _ => rfl
  obtain ⟨hg, hge⟩ := hI
  have hlt := blk_lt hg
  have hg1 := blk_alloc (blk_alloc hg (.cells #[.int .i64 a1] 3)) (.cells #[.string ⟨#[]⟩] 9)
  have hsz := hB.size
  have hn := blk_alloc (blk_new w (.cells #[.int .i64 a1] 3)) (.cells #[.string ⟨#[]⟩] 9)
  have ho : ((w.alloc (.cells #[.int .i64 a1] 3)).alloc (.cells #[.string ⟨#[]⟩] 9)).heap[w.heap.size + 1]? = some (.cells #[.string ⟨#[]⟩] 9 (0, 0)) := by
    have := blk_new (w.alloc (.cells #[.int .i64 a1] 3)) (.cells #[.string ⟨#[]⟩] 9)
    simpa using this
  have hsA : ((w.alloc (.cells #[.int .i64 a1] 3)).alloc (.cells #[.string ⟨#[]⟩] 9)).heap.size = w.heap.size + 2 := by simp
  have HBA := below_alloc (below_alloc hB (.cells #[.int .i64 a1] 3)) (.cells #[.string ⟨#[]⟩] 9)
  have HKA := keep_alloc (keep_alloc (KeepBut.refl w g none) (.cells #[.int .i64 a1] 3)) (.cells #[.string ⟨#[]⟩] 9)
  obtain ⟨wA, hwA⟩ : ∃ wA, (w.alloc (.cells #[.int .i64 a1] 3)).alloc (.cells #[.string ⟨#[]⟩] 9) = wA := ⟨_, rfl⟩
  rw [hwA] at hg1 hn ho hsA HBA HKA
  have ho1 := blk_alloc ho (.cells #[.pointer (some ⟨g, 0, none⟩)] 57)
  have hn1 := blk_alloc hn (.cells #[.pointer (some ⟨g, 0, none⟩)] 57)
  have hg2 := blk_alloc hg1 (.cells #[.pointer (some ⟨g, 0, none⟩)] 57)
  have hb2 := blk_new wA (.cells #[.pointer (some ⟨g, 0, none⟩)] 57)
  have HWA := Aside0.mk hwA
  have HG := Aside0.mk hg2
  have HO := Aside0.mk ho1
  have HL := Aside0.mk hlt
  have HE := Aside0.mk hge
  have HZ := Aside0.mk hsz
  unfold pack_Reader_Take.f at h
  by_cases hk : s0_1 = 0
  · subst hk
    rw [if_pos rfl] at h
    by_cases hR : 0 ≤ a1 ∧ a1 ≤ (s0_0.size : Int)
    · rw [if_pos hR] at h
      simp only [Option.some.injEq, Prod.mk.injEq] at h
      obtain ⟨rfl, rfl, rfl⟩ := h
      have HC := Aside0.mk (read_ret g s0_0 (s0_0.extract a1.toNat s0_0.size) 84 #[.pointer (some ⟨w.heap.size, 0, none⟩), .pointer (some ⟨w.heap.size + 1, 0, none⟩)] wA
        (fun w' => ∃ n, w' = (((wA.alloc (.cells #[.pointer (some ⟨g, 0, none⟩)] 57)).drewN n).setCell ⟨w.heap.size + 1, 0, none⟩ (.string (s0_0.extract 0 a1.toNat)))) hg1
        (fun n => (take1_ok s0_0 _ a1 ⟨w.heap.size, 0, none⟩ ⟨w.heap.size + 1, 0, none⟩ ((wA.alloc (.cells #[.pointer (some ⟨g, 0, none⟩)] 57)).drewN n) ((blk_cell (blk_drewN hn1 n) 0).trans rfl) ((blk_cell (blk_drewN ho1 n) 0).trans rfl) (blk_frozen (blk_drewN ho1 n) 0) (by simp) hR.1 hR.2).mono (by
          rintro e w' ⟨rfl, rfl⟩
          exact ⟨rfl, n, rfl⟩))
        (take_fn40 _) (by
          rintro w' ⟨n, rfl⟩
          exact ⟨blk_far (blk_drewN hg2 n) (by simp; omega) _, blk_far (blk_drewN hb2 n) (by simp; omega) _⟩))
      clear hB hg hg1 ho ho1 hg2 hb2 hlt hge hsz hn hn1 hsA hR
      subst hwA
      go_enter Try.func61, Try.ntmps61
      go_wp2_with (go_at_call 55; refine HC.out.mono ?_; rintro e w' ⟨rfl, w1, ⟨n, rfl⟩, hw⟩; have hcell : w'.cell? ⟨w.heap.size + 1, 0, none⟩ = some (.string (s0_0.extract 0 a1.toNat)) := (by have := HL.out; rw [hw]; exact (blk_cell (blk_far (blk_set (blk_drewN HO.out n) 0 _) (by simp; omega) _) 0).trans rfl); have HW := Aside0.mk hw; clear hw)
      go_ret
      have hw := HW.out
      have hlt := HL.out
      have hz := HZ.out
      refine ⟨rfl, ⟨?_, HE.out⟩, ?_, ?_⟩ <;> rw [hw]
      · exact blk_put (blk_far (blk_drewN HG.out n) (by simp; omega) _) 0 _ rfl
      · exact below_set (below_set (pw_below_drewN (below_alloc HBA _) n) (by omega)) HE.out
      · exact KeepBut.set_ (keep_far (keep_drewN (keep_alloc HKA _) n) (by simp) _) 0 _
    · rw [if_neg hR] at h
      simp only [Option.some.injEq, Prod.mk.injEq] at h
      obtain ⟨rfl, rfl, rfl⟩ := h
      have HC := Aside0.mk (read_panics g s0_0 84 2 #[.pointer (some ⟨w.heap.size, 0, none⟩), .pointer (some ⟨w.heap.size + 1, 0, none⟩)] wA
        (fun w' => ∃ n, w' = (wA.alloc (.cells #[.pointer (some ⟨g, 0, none⟩)] 57)).drewN n) hg1
        (fun n => (take1_no s0_0 ⟨#[]⟩ a1 ⟨w.heap.size, 0, none⟩ ⟨w.heap.size + 1, 0, none⟩ ((wA.alloc (.cells #[.pointer (some ⟨g, 0, none⟩)] 57)).drewN n) ((blk_cell (blk_drewN hn1 n) 0).trans rfl) (by omega)).mono (by
          rintro e w' ⟨rfl, rfl⟩
          exact ⟨rfl, n, rfl⟩))
        (take_fn40 _) (by
          rintro w' ⟨n, rfl⟩
          exact ⟨blk_drewN hg2 n, blk_drewN hb2 n⟩))
      clear hB hg hg1 ho ho1 hg2 hb2 hlt hge hsz hn hn1 hsA hR
      subst hwA
      go_enter Try.func61, Try.ntmps61
      go_wp2_with (go_at_call 55; refine HC.out.mono ?_; rintro e w' ⟨rfl, w1, m, ⟨n, rfl⟩, hw⟩; have hcell : w'.cell? ⟨w.heap.size + 1, 0, none⟩ = some (.string ⟨#[]⟩) := (by have := HL.out; rw [hw]; exact (blk_cell (blk_far (blk_drewN (blk_drewN HO.out n) m) (by simp; omega) _) 0).trans rfl); have HW := Aside0.mk hw; clear hw)
      go_ret
      have hw := HW.out
      have hlt := HL.out
      refine ⟨rfl, ⟨?_, HE.out⟩, ?_, ?_⟩ <;> rw [hw]
      · exact blk_put (blk_drewN (blk_drewN HG.out n) m) 1 _ rfl
      · exact below_set (pw_below_drewN (pw_below_drewN (below_alloc HBA _) n) m) HE.out
      · exact KeepBut.set_ (keep_drewN (keep_drewN (keep_alloc HKA _) n) m) 1 _
  · rw [if_neg hk] at h
    simp only [Option.some.injEq, Prod.mk.injEq] at h
    obtain ⟨rfl, rfl, rfl⟩ := h
    have HC := Aside0.mk (read_skip g s0_0 84 s0_1 #[.pointer (some ⟨w.heap.size, 0, none⟩), .pointer (some ⟨w.heap.size + 1, 0, none⟩)] wA hk hg1)
    clear hB hg hg1 ho ho1 hg2 hb2 hlt hge hsz hn hn1 hsA
    subst hwA
    go_enter Try.func61, Try.ntmps61
    go_wp2_with (go_at_call 55; refine HC.out.mono ?_; rintro e w' ⟨rfl, hw⟩; have hcell : w'.cell? ⟨w.heap.size + 1, 0, none⟩ = some (.string ⟨#[]⟩) := (by rw [hw]; exact (blk_cell HO.out 0).trans rfl); have HW := Aside0.mk hw; clear hw)
    go_ret
    have hw := HW.out
    refine ⟨rfl, ⟨?_, HE.out⟩, ?_, ?_⟩ <;> rw [hw]
    · exact HG.out
    · exact below_alloc HBA _
    · exact keep_alloc HKA _
end Go.Proofs.Ytfgnjndfnijjoaa.Print
end
section
namespace Go.Proofs.Ytfgnjndfnijjoaa.Print
open Go.RowKit Go.Proofs.YtfgnjndfnijjoaaW.PrintWords Go.Proofs.YtfgnjndfnijjoaaW.PrintLast Go.Proofs.YtfgnjndfnijjoaaW.PrintMore
attribute [local go_sem] max2_int min2_int max_two min_two max_three min_three max_four min_four
attribute [local go_sem] run_store_float
set_option linter.unusedVariables false
set_option linter.unusedSimpArgs false
mutual
def word_Take.j0 : Nat → ByteArray → Int → Int → Bool → Option (ByteArray × Int × Int)
  | 0, _, _, _, _ => none
  | k + 1, x0, x1, x2, x19 => if x19 = true then (some ((⟨#[]⟩ : ByteArray), 0, 1)) else (if 0 ≤ x1 then (if x1 ≤ (x0.size : Int) then ((pack_New.f (x0.extract (x1 : Int).toNat x0.size)).bind fun bt139 => ((pack_Reader_Num.f bt139.1 bt139.2).bind fun bt142 => ((pack_Reader_Err.f bt142.2.1 bt142.2.2).bind fun bt145 => (if bt145.1 = 0 then (if x2 < 0 then (word_Take.j1 k x0 bt142.1 true bt145.2.1 bt145.2.2) else (word_Take.j1 k x0 bt142.1 (decide (bt142.1 > (IntKind.u64.wrap (x2)))) bt145.2.1 bt145.2.2)) else ((pack_Reader_Err.f bt145.2.1 bt145.2.2).bind fun bt151 => (some ((⟨#[]⟩ : ByteArray), 0, bt151.1))))))) else (none)) else (none))
def word_Take.j1 : Nat → ByteArray → Int → Bool → ByteArray → Int → Option (ByteArray × Int × Int)
  | 0, _, _, _, _, _ => none
  | k + 1, x0, x10, x32, x142000, x142001 => if x32 = true then (some ((⟨#[]⟩ : ByteArray), 0, 10)) else ((pack_Reader_Left.f x142000 x142001).bind fun bt148 => (if x10 > (IntKind.u64.wrap (bt148.1)) then (some ((⟨#[]⟩ : ByteArray), 0, 2)) else ((pack_Reader_Take.f bt148.2.1 bt148.2.2 (wrap64 (x10))).bind fun bt154 => ((word_Valid.f bt154.1).bind fun t157 => (if t157 = true then ((pack_Reader_Left.f bt154.2.1 bt154.2.2).bind fun bt158 => (some (bt154.1, wrap64 ((x0.size : Int) - bt158.1), 0))) else (some ((⟨#[]⟩ : ByteArray), 0, 4)))))))
end
def word_Take.f (k : Nat) (a0 : ByteArray) (a1 : Int) (a2 : Int) : Option (ByteArray × Int × Int) := if a1 < 0 then (word_Take.j0 k a0 a1 a2 true) else (word_Take.j0 k a0 a1 a2 (decide (a1 > (a0.size : Int))))
theorem word_Take.mono_l : ∀ k, (∀ y0 y1 y2 y3, LeO (word_Take.j0 k y0 y1 y2 y3) (word_Take.j0 (k + 1) y0 y1 y2 y3)) ∧ (∀ y0 y1 y2 y3 y4, LeO (word_Take.j1 k y0 y1 y2 y3 y4) (word_Take.j1 (k + 1) y0 y1 y2 y3 y4))
  | 0 => ⟨fun _ _ _ _ r h => by simp [word_Take.j0] at h, fun _ _ _ _ _ r h => by simp [word_Take.j1] at h⟩
  | k + 1 => by
    obtain ⟨ih0, ih1⟩ := word_Take.mono_l k
    refine ⟨?_, ?_⟩
    · intro y0 y1 y2 y3
      unfold word_Take.j0
      repeat' first
      | (with_reducible exact ih0 _ _ _ _)
      | (with_reducible exact ih1 _ _ _ _ _)
      | (with_reducible exact LeO.refl _)
      | (with_reducible exact LeO.none _)
      | (with_reducible refine LeO.ite ?_ ?_)
      | (with_reducible refine LeO.bind ?_ (fun _ => ?_))
      | exact ih0 _ _ _ _
      | exact ih1 _ _ _ _ _
      | exact LeO.none _
      | refine LeO.ite ?_ ?_
      | refine LeO.bind ?_ (fun _ => ?_)
    · intro y0 y1 y2 y3 y4
      unfold word_Take.j1
      repeat' first
      | (with_reducible exact ih0 _ _ _ _)
      | (with_reducible exact ih1 _ _ _ _ _)
      | (with_reducible exact LeO.refl _)
      | (with_reducible exact LeO.none _)
      | (with_reducible refine LeO.ite ?_ ?_)
      | (with_reducible refine LeO.bind ?_ (fun _ => ?_))
      | exact ih0 _ _ _ _
      | exact ih1 _ _ _ _ _
      | exact LeO.none _
      | refine LeO.ite ?_ ?_
      | refine LeO.bind ?_ (fun _ => ?_)
theorem word_Take.mono : ∀ a0 a1 a2 k, LeO (word_Take.f k a0 a1 a2) (word_Take.f (k + 1) a0 a1 a2) := by
  intro a0 a1 a2 k
  obtain ⟨ih0, ih1⟩ := word_Take.mono_l k
  unfold word_Take.f
  repeat' first
      | (with_reducible exact ih0 _ _ _ _)
      | (with_reducible exact ih1 _ _ _ _ _)
      | (with_reducible exact LeO.refl _)
      | (with_reducible exact LeO.none _)
      | (with_reducible refine LeO.ite ?_ ?_)
      | (with_reducible refine LeO.bind ?_ (fun _ => ?_))
      | exact ih0 _ _ _ _
      | exact ih1 _ _ _ _ _
      | exact LeO.none _
      | refine LeO.ite ?_ ?_
      | refine LeO.bind ?_ (fun _ => ?_)
set_option maxHeartbeats 8000000 in
set_option maxRecDepth 100000 in
theorem word_Take.calls (k : Nat) (a0 : ByteArray) (a1 : Int) (a2 : Int) (r1 : ByteArray) (r2 : Int) (r3 : Int) (w : World) (h : word_Take.f k a0 a1 a2 = some (r1, r2, r3)) :
    Calls Try.prog 60 #[.string a0, .int .i64 a1, .int .i64 a2] w fun e w' => e = .returned (.tuple #[.string r1, .int .i64 r2, .int .i64 r3]) ∧ Below w.heap.size w w' := by
  have HB := Aside0.mk (Below.refl w.heap.size w)
  have H : (if a1 < 0 then (word_Take.j0 k a0 a1 a2 true) else (word_Take.j0 k a0 a1 a2 (decide (a1 > (a0.size : Int))))) = some (r1, r2, r3) := h
  clear h
  have HC4 := Aside0.mk H
  clear H
  go_enter Try.func60, Try.ntmps60
  go_upto_region 1 with (fail)
  go_cut [19] (fun v19 wc => ∃ (kq : Nat) (x19_3 : Bool), v19 = .bool x19_3 ∧ Aside0 (word_Take.j0 kq a0 a1 a2 x19_3 = some (r1, r2, r3)) ∧ Aside0 (kq ≤ k) ∧ Aside0 (Below w.heap.size w wc))
  case first =>
    have H := HC4.out
    clear HC4
    by_cases c5 : a1 < 0
    · rw [if_pos c5] at H
      have c5b0 : decide (a1 < 0) = true := decide_eq_true c5
      clear c5
      (first | rw [c5b0] | (simp only [i64_w, i32_w]; rw [c5b0]) | skip)
      have H' := Aside0.mk H
      clear H
      go_wp2
      go_meet
      case rel => exact ⟨_, (true), (by first | rfl | (simp; done) | (simp [*]; done)), H', ⟨by first | omega | exact Nat.le_refl _⟩, ⟨by repeat (first | (with_reducible first | exact HB.out | apply below_alloc | apply pw_below_drewN | apply below_drew1) | exact HB.out)⟩⟩
    · rw [if_neg c5] at H
      have c5b0 : decide (a1 < 0) = false := decide_eq_false c5
      clear c5
      (first | rw [c5b0] | (simp only [i64_w, i32_w]; rw [c5b0]) | skip)
      have H' := Aside0.mk H
      clear H
      go_wp2
      go_meet
      case rel => exact ⟨_, (decide (a1 > (a0.size : Int))), (by first | rfl | (simp; done) | (simp [*]; done)), H', ⟨by first | omega | exact Nat.le_refl _⟩, ⟨by repeat (first | (with_reducible first | exact HB.out | apply below_alloc | apply pw_below_drewN | apply below_drew1) | exact HB.out)⟩⟩
  case rest =>
    clear HC4
    try clear p2
    try clear c5
    try clear c5b0
    obtain ⟨kq, x19_3, rfl, HA, HJ3, HB⟩ := hcut
    cases kq with
    | zero => exact absurd HA.out (by simp [word_Take.j0])
    | succ kj3 =>
      have H := HA.out
      clear HA
      simp only [word_Take.j0] at H
      by_cases c6 : x19_3 = true
      · subst c6
        have H1 : (some ((⟨#[]⟩ : ByteArray), 0, 1)) = some (r1, r2, r3) := by rw [if_pos rfl] at H; exact H
        clear H
        have H := H1
        clear H1
        simp only [Option.some.injEq, Prod.mk.injEq] at H
        obtain ⟨rfl, rfl, rfl⟩ := H
        go_wp2
        go_ret3
        exact ⟨by first | rfl | (simp [errW_none, errW_some] <;> rfl) | (simp [*, errW_none, errW_some] <;> rfl), by repeat (first | (with_reducible first | exact HB.out | apply below_alloc | apply pw_below_drewN | apply below_drew1) | exact HB.out)⟩
      · replace c6 := Bool.eq_false_iff.mpr c6
        subst c6
        have H1 : (if 0 ≤ a1 then (if a1 ≤ (a0.size : Int) then ((pack_New.f (a0.extract (a1 : Int).toNat a0.size)).bind fun bt139 => ((pack_Reader_Num.f bt139.1 bt139.2).bind fun bt142 => ((pack_Reader_Err.f bt142.2.1 bt142.2.2).bind fun bt145 => (if bt145.1 = 0 then (if a2 < 0 then (word_Take.j1 kj3 a0 bt142.1 true bt145.2.1 bt145.2.2) else (word_Take.j1 kj3 a0 bt142.1 (decide (bt142.1 > (IntKind.u64.wrap (a2)))) bt145.2.1 bt145.2.2)) else ((pack_Reader_Err.f bt145.2.1 bt145.2.2).bind fun bt151 => (some ((⟨#[]⟩ : ByteArray), 0, bt151.1))))))) else (none)) else (none)) = some (r1, r2, r3) := by rw [if_neg (show ¬ (false = true) by decide)] at H; exact H
        clear H
        have H := H1
        clear H1
        by_cases c7 : 0 ≤ a1
        · rw [if_pos c7] at H
          have c7b0 := eq_true c7
          have c7b1 : decide (0 ≤ a1) = true := decide_eq_true c7
          clear c7
          by_cases c8 : a1 ≤ (a0.size : Int)
          · rw [if_pos c8] at H
            have c8b0 := eq_true c8
            have c8b1 : decide (a1 ≤ (a0.size : Int)) = true := decide_eq_true c8
            clear c8
            replace H := Option.bind_eq_some_iff.mp H
            obtain ⟨⟨t139, t140⟩, A90, H⟩ := H
            replace H : ((pack_Reader_Num.f t139 t140).bind fun bt142 => ((pack_Reader_Err.f bt142.2.1 bt142.2.2).bind fun bt145 => (if bt145.1 = 0 then (if a2 < 0 then (word_Take.j1 kj3 a0 bt142.1 true bt145.2.1 bt145.2.2) else (word_Take.j1 kj3 a0 bt142.1 (decide (bt142.1 > (IntKind.u64.wrap (a2)))) bt145.2.1 bt145.2.2)) else ((pack_Reader_Err.f bt145.2.1 bt145.2.2).bind fun bt151 => (some ((⟨#[]⟩ : ByteArray), 0, bt151.1)))))) = some (r1, r2, r3) := H
            have A9 := Aside0.mk A90
            clear A90
            replace H := Option.bind_eq_some_iff.mp H
            obtain ⟨⟨t142, t143, t144⟩, A100, H⟩ := H
            replace H : ((pack_Reader_Err.f t143 t144).bind fun bt145 => (if bt145.1 = 0 then (if a2 < 0 then (word_Take.j1 kj3 a0 t142 true bt145.2.1 bt145.2.2) else (word_Take.j1 kj3 a0 t142 (decide (t142 > (IntKind.u64.wrap (a2)))) bt145.2.1 bt145.2.2)) else ((pack_Reader_Err.f bt145.2.1 bt145.2.2).bind fun bt151 => (some ((⟨#[]⟩ : ByteArray), 0, bt151.1))))) = some (r1, r2, r3) := H
            have A10 := Aside0.mk A100
            clear A100
            replace H := Option.bind_eq_some_iff.mp H
            obtain ⟨⟨t145, t146, t147⟩, A110, H⟩ := H
            replace H : (if t145 = 0 then (if a2 < 0 then (word_Take.j1 kj3 a0 t142 true t146 t147) else (word_Take.j1 kj3 a0 t142 (decide (t142 > (IntKind.u64.wrap (a2)))) t146 t147)) else ((pack_Reader_Err.f t146 t147).bind fun bt151 => (some ((⟨#[]⟩ : ByteArray), 0, bt151.1)))) = some (r1, r2, r3) := H
            have A11 := Aside0.mk A110
            clear A110
            by_cases c12 : t145 = 0
            · rw [if_pos c12] at H
              have c12b0 : (t145 == 0) = true := beq_iff_eq.mpr c12
              have c12b1 : (t145 != 0) = false := bne_eq_false_iff_eq.mpr c12
              clear c12
              have HC13 := Aside0.mk H
              clear H
              go_upto_region 7 with (first | ((with_reducible refine gate_callee (f := 29) rfl ?_); refine goesL_ (some 23) rfl rfl Try.func29 (by kernel_rfl) rfl #[.string (a0.extract (a1 : Int).toNat a0.size)] rfl (by (try simp only [List.map_toArray, List.map_cons, List.map_nil]); first | done | rfl | (simp only [List.length_drop, List.length_take]; rfl)) ?_; (with_reducible refine (pack_New.calls (a0.extract (a1 : Int).toNat a0.size) t139 t140 w _ ?side1 A9.out).mono ?_); (case side1 => repeat (first | (with_reducible first | exact HB.out | apply below_alloc | apply pw_below_drewN | apply below_drew1) | exact HB.out)); rintro e w14 ⟨g141, rfl, hi, hb, hb2⟩; refine ⟨_, rfl, ?_⟩; have n0_ := Aside0.mk (hb); have n1_ := Aside0.mk (hi); clear HB; have HB := n0_; have HI141 := n1_; clear n0_ n1_; (try clear hb); (try clear hb2); (try clear hk); (try clear hi)) | ((with_reducible refine gate_callee (f := 30) rfl ?_); refine goesL_ (some 25) rfl rfl Try.func30 (by kernel_rfl) rfl #[.pointer (some ⟨g141, 0, none⟩)] rfl (by (try simp only [List.map_toArray, List.map_cons, List.map_nil]); first | done | rfl | (simp only [List.length_drop, List.length_take]; rfl)) ?_; (with_reducible refine (pack_Reader_Num.calls g141 t139 t140 t142 t143 t144 w _ ?side1 ?side2 A10.out).mono ?_); (case side1 => repeat (first | (with_reducible first | exact HI141.out | apply IsS85.alloc | apply IsS85.drewN | apply IsS85.drew | apply IsS85.set_0 | apply IsS85.set_1) | exact HI141.out)); (case side2 => repeat (first | (with_reducible first | exact HB.out | apply below_alloc | apply pw_below_drewN | apply below_drew1 | refine below_set ?_ (IsS85.ge HI141.out)) | exact HB.out)); rintro e w15 ⟨rfl, hi, hb, hk⟩; refine ⟨_, rfl, ?_⟩; have n0_ := Aside0.mk (hb); have n1_ := Aside0.mk (hi); clear HB; clear HI141; have HB := n0_; have HI141 := n1_; clear n0_ n1_; (try clear hb); (try clear hb2); (try clear hk); (try clear hi)) | ((with_reducible refine gate_callee (f := 31) rfl ?_); refine goesL_ (some 28) rfl rfl Try.func31 (by kernel_rfl) rfl #[.pointer (some ⟨g141, 0, none⟩)] rfl (by (try simp only [List.map_toArray, List.map_cons, List.map_nil]); first | done | rfl | (simp only [List.length_drop, List.length_take]; rfl)) ?_; (with_reducible refine (pack_Reader_Err.calls g141 t143 t144 t145 t146 t147 w _ ?side1 ?side2 A11.out).mono ?_); (case side1 => repeat (first | (with_reducible first | exact HI141.out | apply IsS85.alloc | apply IsS85.drewN | apply IsS85.drew | apply IsS85.set_0 | apply IsS85.set_1) | exact HI141.out)); (case side2 => repeat (first | (with_reducible first | exact HB.out | apply below_alloc | apply pw_below_drewN | apply below_drew1 | refine below_set ?_ (IsS85.ge HI141.out)) | exact HB.out)); rintro e w16 ⟨rfl, hi, hb, hk⟩; refine ⟨_, rfl, ?_⟩; have n0_ := Aside0.mk (hb); have n1_ := Aside0.mk (hi); clear HB; clear HI141; have HB := n0_; have HI141 := n1_; clear n0_ n1_; (try clear hb); (try clear hb2); (try clear hk); (try clear hi)))
              (try simp only [Act.put, List.setIfInBounds_toArray, List.set_cons_zero, List.set_cons_succ])
              go_cut [32] (fun v32 wc => ∃ (kq : Nat) (x32_12 : Bool), v32 = .bool x32_12 ∧ Aside0 (word_Take.j1 kq a0 t142 x32_12 t146 t147 = some (r1, r2, r3)) ∧ Aside0 (kq ≤ kj3) ∧ Aside0 (IsS85 w wc g141 t146 t147) ∧ Aside0 (Below w.heap.size w wc))
              case first =>
                have H := HC13.out
                clear HC13
                by_cases c17 : a2 < 0
                · rw [if_pos c17] at H
                  have c17b0 : decide (a2 < 0) = true := decide_eq_true c17
                  clear c17
                  (first | rw [c17b0] | (simp only [i64_w, i32_w]; rw [c17b0]) | skip)
                  have H' := Aside0.mk H
                  clear H
                  go_wp2
                  go_meet
                  case rel => exact ⟨_, (true), (by first | rfl | (simp; done) | (simp [*]; done)), H', ⟨by have := HJ3.out; first | omega | exact Nat.le_refl _⟩, ⟨by repeat (first | (with_reducible first | exact HI141.out | apply IsS85.alloc | apply IsS85.drewN | apply IsS85.drew | apply IsS85.set_0 | apply IsS85.set_1) | exact HI141.out)⟩, ⟨by repeat (first | (with_reducible first | exact HB.out | apply below_alloc | apply pw_below_drewN | apply below_drew1 | refine below_set ?_ (IsS85.ge HI141.out)) | exact HB.out)⟩⟩
                · rw [if_neg c17] at H
                  have c17b0 : decide (a2 < 0) = false := decide_eq_false c17
                  clear c17
                  (first | rw [c17b0] | (simp only [i64_w, i32_w]; rw [c17b0]) | skip)
                  have H' := Aside0.mk H
                  clear H
                  go_wp2
                  go_meet
                  case rel => exact ⟨_, (decide (t142 > (IntKind.u64.wrap (a2)))), (by first | rfl | (simp; done) | (simp [*]; done)), H', ⟨by have := HJ3.out; first | omega | exact Nat.le_refl _⟩, ⟨by repeat (first | (with_reducible first | exact HI141.out | apply IsS85.alloc | apply IsS85.drewN | apply IsS85.drew | apply IsS85.set_0 | apply IsS85.set_1) | exact HI141.out)⟩, ⟨by repeat (first | (with_reducible first | exact HB.out | apply below_alloc | apply pw_below_drewN | apply below_drew1 | refine below_set ?_ (IsS85.ge HI141.out)) | exact HB.out)⟩⟩
              case rest =>
                clear HC13
                try clear c1
                try clear c2
                try clear p2
                try clear c3
                try clear c5
                try clear c5b0
                try clear c6
                try clear c7
                try clear c7b0
                try clear c7b1
                try clear c8
                try clear c8b0
                try clear c8b1
                try clear c12
                try clear c12b0
                try clear c12b1
                try clear c17
                try clear c17b0
                try clear p2
                obtain ⟨kq, x32_12, rfl, HA, HJ12, HI141, HB⟩ := hcut
                cases kq with
                | zero => exact absurd HA.out (by simp [word_Take.j1])
                | succ kj12 =>
                  have H := HA.out
                  clear HA
                  simp only [word_Take.j1] at H
                  by_cases c18 : x32_12 = true
                  · subst c18
                    have H1 : (some ((⟨#[]⟩ : ByteArray), 0, 10)) = some (r1, r2, r3) := by rw [if_pos rfl] at H; exact H
                    clear H
                    have H := H1
                    clear H1
                    simp only [Option.some.injEq, Prod.mk.injEq] at H
                    obtain ⟨rfl, rfl, rfl⟩ := H
                    go_wp2
                    go_ret3
                    exact ⟨by first | rfl | (simp [errW_none, errW_some] <;> rfl) | (simp [*, errW_none, errW_some] <;> rfl), by repeat (first | (with_reducible first | exact HB.out | apply below_alloc | apply pw_below_drewN | apply below_drew1 | refine below_set ?_ (IsS85.ge HI141.out)) | exact HB.out)⟩
                  · replace c18 := Bool.eq_false_iff.mpr c18
                    subst c18
                    have H1 : ((pack_Reader_Left.f t146 t147).bind fun bt148 => (if t142 > (IntKind.u64.wrap (bt148.1)) then (some ((⟨#[]⟩ : ByteArray), 0, 2)) else ((pack_Reader_Take.f bt148.2.1 bt148.2.2 (wrap64 (t142))).bind fun bt154 => ((word_Valid.f bt154.1).bind fun t157 => (if t157 = true then ((pack_Reader_Left.f bt154.2.1 bt154.2.2).bind fun bt158 => (some (bt154.1, wrap64 ((a0.size : Int) - bt158.1), 0))) else (some ((⟨#[]⟩ : ByteArray), 0, 4))))))) = some (r1, r2, r3) := by rw [if_neg (show ¬ (false = true) by decide)] at H; exact H
                    clear H
                    have H := H1
                    clear H1
                    replace H := Option.bind_eq_some_iff.mp H
                    obtain ⟨⟨t148, t149, t150⟩, A190, H⟩ := H
                    replace H : (if t142 > (IntKind.u64.wrap (t148)) then (some ((⟨#[]⟩ : ByteArray), 0, 2)) else ((pack_Reader_Take.f t149 t150 (wrap64 (t142))).bind fun bt154 => ((word_Valid.f bt154.1).bind fun t157 => (if t157 = true then ((pack_Reader_Left.f bt154.2.1 bt154.2.2).bind fun bt158 => (some (bt154.1, wrap64 ((a0.size : Int) - bt158.1), 0))) else (some ((⟨#[]⟩ : ByteArray), 0, 4)))))) = some (r1, r2, r3) := H
                    have A19 := Aside0.mk A190
                    clear A190
                    by_cases c20 : t142 > (IntKind.u64.wrap (t148))
                    · rw [if_pos c20] at H
                      have c20b0 : decide ((IntKind.u64.wrap (t148)) < t142) = true := decide_eq_true c20
                      clear c20
                      simp only [Option.some.injEq, Prod.mk.injEq] at H
                      obtain ⟨rfl, rfl, rfl⟩ := H
                      go_wp2_with (first | ((with_reducible refine gate_callee (f := 69) rfl ?_); refine goesL_ (some 44) rfl rfl Try.func69 (by kernel_rfl) rfl #[.pointer (some ⟨g141, 0, none⟩)] rfl (by (try simp only [List.map_toArray, List.map_cons, List.map_nil]); first | done | rfl | (simp only [List.length_drop, List.length_take]; rfl)) ?_; (with_reducible refine (pack_Reader_Left.calls g141 t146 t147 t148 t149 t150 w _ ?side1 ?side2 A19.out).mono ?_); (case side1 => repeat (first | (with_reducible first | exact HI141.out | apply IsS85.alloc | apply IsS85.drewN | apply IsS85.drew | apply IsS85.set_0 | apply IsS85.set_1) | exact HI141.out)); (case side2 => repeat (first | (with_reducible first | exact HB.out | apply below_alloc | apply pw_below_drewN | apply below_drew1 | refine below_set ?_ (IsS85.ge HI141.out)) | exact HB.out)); rintro e w21 ⟨rfl, hi, hb, hk⟩; refine ⟨_, rfl, ?_⟩; have n0_ := Aside0.mk (hb); have n1_ := Aside0.mk (hi); clear HB; clear HI141; have HB := n0_; have HI141 := n1_; clear n0_ n1_; (try clear hb); (try clear hb2); (try clear hk); (try clear hi)))
                      go_ret3
                      exact ⟨by first | rfl | (simp [errW_none, errW_some] <;> rfl) | (simp [*, errW_none, errW_some] <;> rfl), by repeat (first | (with_reducible first | exact HB.out | apply below_alloc | apply pw_below_drewN | apply below_drew1 | refine below_set ?_ (IsS85.ge HI141.out)) | exact HB.out)⟩
                    · rw [if_neg c20] at H
                      have c20b0 : decide ((IntKind.u64.wrap (t148)) < t142) = false := decide_eq_false c20
                      clear c20
                      replace H := Option.bind_eq_some_iff.mp H
                      obtain ⟨⟨t154, t155, t156⟩, A220, H⟩ := H
                      replace H : ((word_Valid.f t154).bind fun t157 => (if t157 = true then ((pack_Reader_Left.f t155 t156).bind fun bt158 => (some (t154, wrap64 ((a0.size : Int) - bt158.1), 0))) else (some ((⟨#[]⟩ : ByteArray), 0, 4)))) = some (r1, r2, r3) := H
                      have A22 := Aside0.mk A220
                      clear A220
                      replace H := Option.bind_eq_some_iff.mp H
                      obtain ⟨t157, A230, H⟩ := H
                      replace H : (if t157 = true then ((pack_Reader_Left.f t155 t156).bind fun bt158 => (some (t154, wrap64 ((a0.size : Int) - bt158.1), 0))) else (some ((⟨#[]⟩ : ByteArray), 0, 4))) = some (r1, r2, r3) := H
                      have A23 := Aside0.mk A230
                      clear A230
                      by_cases c24 : t157 = true
                      · subst c24
                        have H1 : ((pack_Reader_Left.f t155 t156).bind fun bt158 => (some (t154, wrap64 ((a0.size : Int) - bt158.1), 0))) = some (r1, r2, r3) := by rw [if_pos rfl] at H; exact H
                        clear H
                        have H := H1
                        clear H1
                        replace H := Option.bind_eq_some_iff.mp H
                        obtain ⟨⟨t158, t159, t160⟩, A250, H⟩ := H
                        replace H : (some (t154, wrap64 ((a0.size : Int) - t158), 0)) = some (r1, r2, r3) := H
                        have A25 := Aside0.mk A250
                        clear A250
                        simp only [Option.some.injEq, Prod.mk.injEq] at H
                        obtain ⟨rfl, rfl, rfl⟩ := H
                        go_wp2_with (first | ((with_reducible refine gate_callee (f := 69) rfl ?_); refine goesL_ (some 44) rfl rfl Try.func69 (by kernel_rfl) rfl #[.pointer (some ⟨g141, 0, none⟩)] rfl (by (try simp only [List.map_toArray, List.map_cons, List.map_nil]); first | done | rfl | (simp only [List.length_drop, List.length_take]; rfl)) ?_; (with_reducible refine (pack_Reader_Left.calls g141 t146 t147 t148 t149 t150 w _ ?side1 ?side2 A19.out).mono ?_); (case side1 => repeat (first | (with_reducible first | exact HI141.out | apply IsS85.alloc | apply IsS85.drewN | apply IsS85.drew | apply IsS85.set_0 | apply IsS85.set_1) | exact HI141.out)); (case side2 => repeat (first | (with_reducible first | exact HB.out | apply below_alloc | apply pw_below_drewN | apply below_drew1 | refine below_set ?_ (IsS85.ge HI141.out)) | exact HB.out)); rintro e w26 ⟨rfl, hi, hb, hk⟩; refine ⟨_, rfl, ?_⟩; have n0_ := Aside0.mk (hb); have n1_ := Aside0.mk (hi); clear HB; clear HI141; have HB := n0_; have HI141 := n1_; clear n0_ n1_; (try clear hb); (try clear hb2); (try clear hk); (try clear hi)) | ((with_reducible refine gate_callee (f := 61) rfl ?_); refine goesL_ (some 50) rfl rfl Try.func61 (by kernel_rfl) rfl #[.pointer (some ⟨g141, 0, none⟩), .int .i64 (wrap64 (t142))] rfl (by (try simp only [List.map_toArray, List.map_cons, List.map_nil]); first | done | rfl | (simp only [List.length_drop, List.length_take]; rfl)) ?_; (with_reducible refine (pack_Reader_Take.calls g141 t149 t150 (wrap64 (t142)) t154 t155 t156 w _ ?side1 ?side2 A22.out).mono ?_); (case side1 => repeat (first | (with_reducible first | exact HI141.out | apply IsS85.alloc | apply IsS85.drewN | apply IsS85.drew | apply IsS85.set_0 | apply IsS85.set_1) | exact HI141.out)); (case side2 => repeat (first | (with_reducible first | exact HB.out | apply below_alloc | apply pw_below_drewN | apply below_drew1 | refine below_set ?_ (IsS85.ge HI141.out)) | exact HB.out)); rintro e w27 ⟨rfl, hi, hb, hk⟩; refine ⟨_, rfl, ?_⟩; have n0_ := Aside0.mk (hb); have n1_ := Aside0.mk (hi); clear HB; clear HI141; have HB := n0_; have HI141 := n1_; clear n0_ n1_; (try clear hb); (try clear hb2); (try clear hk); (try clear hi)) | ((with_reducible refine gate_callee (f := 83) rfl ?_); refine goesL_ (some 52) rfl rfl Try.func83 (by kernel_rfl) rfl #[.string t154] rfl (by (try simp only [List.map_toArray, List.map_cons, List.map_nil]); first | done | rfl | (simp only [List.length_drop, List.length_take]; rfl)) ?_; (with_reducible refine (word_Valid.calls t154 true _ A23.out).mono ?_); rintro e w28 ⟨rfl, hb⟩; refine ⟨_, rfl, ?_⟩; have n0_ := Aside0.mk (IsS85.below (by repeat (first | (with_reducible first | exact HI141.out | apply IsS85.alloc | apply IsS85.drewN | apply IsS85.drew | apply IsS85.set_0 | apply IsS85.set_1) | exact HI141.out)) hb); have n1_ := Aside0.mk (below_step (by repeat (first | (with_reducible first | exact HB.out | apply below_alloc | apply pw_below_drewN | apply below_drew1 | refine below_set ?_ (IsS85.ge HI141.out)) | exact HB.out)) hb); clear HI141; clear HB; have HI141 := n0_; have HB := n1_; clear n0_ n1_; (try clear hb); (try clear hb2); (try clear hk); (try clear hi)) | ((with_reducible refine gate_callee (f := 69) rfl ?_); refine goesL_ (some 58) rfl rfl Try.func69 (by kernel_rfl) rfl #[.pointer (some ⟨g141, 0, none⟩)] rfl (by (try simp only [List.map_toArray, List.map_cons, List.map_nil]); first | done | rfl | (simp only [List.length_drop, List.length_take]; rfl)) ?_; (with_reducible refine (pack_Reader_Left.calls g141 t155 t156 t158 t159 t160 w _ ?side1 ?side2 A25.out).mono ?_); (case side1 => repeat (first | (with_reducible first | exact HI141.out | apply IsS85.alloc | apply IsS85.drewN | apply IsS85.drew | apply IsS85.set_0 | apply IsS85.set_1) | exact HI141.out)); (case side2 => repeat (first | (with_reducible first | exact HB.out | apply below_alloc | apply pw_below_drewN | apply below_drew1 | refine below_set ?_ (IsS85.ge HI141.out)) | exact HB.out)); rintro e w29 ⟨rfl, hi, hb, hk⟩; refine ⟨_, rfl, ?_⟩; have n0_ := Aside0.mk (hb); have n1_ := Aside0.mk (hi); clear HB; clear HI141; have HB := n0_; have HI141 := n1_; clear n0_ n1_; (try clear hb); (try clear hb2); (try clear hk); (try clear hi)))
                        go_ret3
                        exact ⟨by first | rfl | (simp [errW_none, errW_some] <;> rfl) | (simp [*, errW_none, errW_some] <;> rfl), by repeat (first | (with_reducible first | exact HB.out | apply below_alloc | apply pw_below_drewN | apply below_drew1 | refine below_set ?_ (IsS85.ge HI141.out)) | exact HB.out)⟩
                      · replace c24 := Bool.eq_false_iff.mpr c24
                        subst c24
                        have H1 : (some ((⟨#[]⟩ : ByteArray), 0, 4)) = some (r1, r2, r3) := by rw [if_neg (show ¬ (false = true) by decide)] at H; exact H
                        clear H
                        have H := H1
                        clear H1
                        simp only [Option.some.injEq, Prod.mk.injEq] at H
                        obtain ⟨rfl, rfl, rfl⟩ := H
                        go_wp2_with (first | ((with_reducible refine gate_callee (f := 69) rfl ?_); refine goesL_ (some 44) rfl rfl Try.func69 (by kernel_rfl) rfl #[.pointer (some ⟨g141, 0, none⟩)] rfl (by (try simp only [List.map_toArray, List.map_cons, List.map_nil]); first | done | rfl | (simp only [List.length_drop, List.length_take]; rfl)) ?_; (with_reducible refine (pack_Reader_Left.calls g141 t146 t147 t148 t149 t150 w _ ?side1 ?side2 A19.out).mono ?_); (case side1 => repeat (first | (with_reducible first | exact HI141.out | apply IsS85.alloc | apply IsS85.drewN | apply IsS85.drew | apply IsS85.set_0 | apply IsS85.set_1) | exact HI141.out)); (case side2 => repeat (first | (with_reducible first | exact HB.out | apply below_alloc | apply pw_below_drewN | apply below_drew1 | refine below_set ?_ (IsS85.ge HI141.out)) | exact HB.out)); rintro e w30 ⟨rfl, hi, hb, hk⟩; refine ⟨_, rfl, ?_⟩; have n0_ := Aside0.mk (hb); have n1_ := Aside0.mk (hi); clear HB; clear HI141; have HB := n0_; have HI141 := n1_; clear n0_ n1_; (try clear hb); (try clear hb2); (try clear hk); (try clear hi)) | ((with_reducible refine gate_callee (f := 61) rfl ?_); refine goesL_ (some 50) rfl rfl Try.func61 (by kernel_rfl) rfl #[.pointer (some ⟨g141, 0, none⟩), .int .i64 (wrap64 (t142))] rfl (by (try simp only [List.map_toArray, List.map_cons, List.map_nil]); first | done | rfl | (simp only [List.length_drop, List.length_take]; rfl)) ?_; (with_reducible refine (pack_Reader_Take.calls g141 t149 t150 (wrap64 (t142)) t154 t155 t156 w _ ?side1 ?side2 A22.out).mono ?_); (case side1 => repeat (first | (with_reducible first | exact HI141.out | apply IsS85.alloc | apply IsS85.drewN | apply IsS85.drew | apply IsS85.set_0 | apply IsS85.set_1) | exact HI141.out)); (case side2 => repeat (first | (with_reducible first | exact HB.out | apply below_alloc | apply pw_below_drewN | apply below_drew1 | refine below_set ?_ (IsS85.ge HI141.out)) | exact HB.out)); rintro e w31 ⟨rfl, hi, hb, hk⟩; refine ⟨_, rfl, ?_⟩; have n0_ := Aside0.mk (hb); have n1_ := Aside0.mk (hi); clear HB; clear HI141; have HB := n0_; have HI141 := n1_; clear n0_ n1_; (try clear hb); (try clear hb2); (try clear hk); (try clear hi)) | ((with_reducible refine gate_callee (f := 83) rfl ?_); refine goesL_ (some 52) rfl rfl Try.func83 (by kernel_rfl) rfl #[.string t154] rfl (by (try simp only [List.map_toArray, List.map_cons, List.map_nil]); first | done | rfl | (simp only [List.length_drop, List.length_take]; rfl)) ?_; (with_reducible refine (word_Valid.calls t154 false _ A23.out).mono ?_); rintro e w32 ⟨rfl, hb⟩; refine ⟨_, rfl, ?_⟩; have n0_ := Aside0.mk (IsS85.below (by repeat (first | (with_reducible first | exact HI141.out | apply IsS85.alloc | apply IsS85.drewN | apply IsS85.drew | apply IsS85.set_0 | apply IsS85.set_1) | exact HI141.out)) hb); have n1_ := Aside0.mk (below_step (by repeat (first | (with_reducible first | exact HB.out | apply below_alloc | apply pw_below_drewN | apply below_drew1 | refine below_set ?_ (IsS85.ge HI141.out)) | exact HB.out)) hb); clear HI141; clear HB; have HI141 := n0_; have HB := n1_; clear n0_ n1_; (try clear hb); (try clear hb2); (try clear hk); (try clear hi)))
                        go_ret3
                        exact ⟨by first | rfl | (simp [errW_none, errW_some] <;> rfl) | (simp [*, errW_none, errW_some] <;> rfl), by repeat (first | (with_reducible first | exact HB.out | apply below_alloc | apply pw_below_drewN | apply below_drew1 | refine below_set ?_ (IsS85.ge HI141.out)) | exact HB.out)⟩
            · rw [if_neg c12] at H
              have c12b0 : (t145 == 0) = false := beq_eq_false_iff_ne.mpr c12
              have c12b1 : (t145 != 0) = true := bne_iff_ne.mpr c12
              replace H := Option.bind_eq_some_iff.mp H
              obtain ⟨⟨t151, t152, t153⟩, A330, H⟩ := H
              replace H : (some ((⟨#[]⟩ : ByteArray), 0, t151)) = some (r1, r2, r3) := H
              have A33 := Aside0.mk A330
              clear A330
              simp only [Option.some.injEq, Prod.mk.injEq] at H
              obtain ⟨rfl, rfl, rfl⟩ := H
              go_wp2_with (first | ((with_reducible refine gate_callee (f := 29) rfl ?_); refine goesL_ (some 23) rfl rfl Try.func29 (by kernel_rfl) rfl #[.string (a0.extract (a1 : Int).toNat a0.size)] rfl (by (try simp only [List.map_toArray, List.map_cons, List.map_nil]); first | done | rfl | (simp only [List.length_drop, List.length_take]; rfl)) ?_; (with_reducible refine (pack_New.calls (a0.extract (a1 : Int).toNat a0.size) t139 t140 w _ ?side1 A9.out).mono ?_); (case side1 => repeat (first | (with_reducible first | exact HB.out | apply below_alloc | apply pw_below_drewN | apply below_drew1) | exact HB.out)); rintro e w34 ⟨g141, rfl, hi, hb, hb2⟩; refine ⟨_, rfl, ?_⟩; have n0_ := Aside0.mk (hb); have n1_ := Aside0.mk (hi); clear HB; have HB := n0_; have HI141 := n1_; clear n0_ n1_; (try clear hb); (try clear hb2); (try clear hk); (try clear hi)) | ((with_reducible refine gate_callee (f := 30) rfl ?_); refine goesL_ (some 25) rfl rfl Try.func30 (by kernel_rfl) rfl #[.pointer (some ⟨g141, 0, none⟩)] rfl (by (try simp only [List.map_toArray, List.map_cons, List.map_nil]); first | done | rfl | (simp only [List.length_drop, List.length_take]; rfl)) ?_; (with_reducible refine (pack_Reader_Num.calls g141 t139 t140 t142 t143 t144 w _ ?side1 ?side2 A10.out).mono ?_); (case side1 => repeat (first | (with_reducible first | exact HI141.out | apply IsS85.alloc | apply IsS85.drewN | apply IsS85.drew | apply IsS85.set_0 | apply IsS85.set_1) | exact HI141.out)); (case side2 => repeat (first | (with_reducible first | exact HB.out | apply below_alloc | apply pw_below_drewN | apply below_drew1 | refine below_set ?_ (IsS85.ge HI141.out)) | exact HB.out)); rintro e w35 ⟨rfl, hi, hb, hk⟩; refine ⟨_, rfl, ?_⟩; have n0_ := Aside0.mk (hb); have n1_ := Aside0.mk (hi); clear HB; clear HI141; have HB := n0_; have HI141 := n1_; clear n0_ n1_; (try clear hb); (try clear hb2); (try clear hk); (try clear hi)) | ((with_reducible refine gate_callee (f := 31) rfl ?_); refine goesL_ (some 28) rfl rfl Try.func31 (by kernel_rfl) rfl #[.pointer (some ⟨g141, 0, none⟩)] rfl (by (try simp only [List.map_toArray, List.map_cons, List.map_nil]); first | done | rfl | (simp only [List.length_drop, List.length_take]; rfl)) ?_; (with_reducible refine (pack_Reader_Err.calls g141 t143 t144 t145 t146 t147 w _ ?side1 ?side2 A11.out).mono ?_); (case side1 => repeat (first | (with_reducible first | exact HI141.out | apply IsS85.alloc | apply IsS85.drewN | apply IsS85.drew | apply IsS85.set_0 | apply IsS85.set_1) | exact HI141.out)); (case side2 => repeat (first | (with_reducible first | exact HB.out | apply below_alloc | apply pw_below_drewN | apply below_drew1 | refine below_set ?_ (IsS85.ge HI141.out)) | exact HB.out)); rintro e w36 ⟨rfl, hi, hb, hk⟩; refine ⟨_, rfl, ?_⟩; have n0_ := Aside0.mk (hb); have n1_ := Aside0.mk (hi); clear HB; clear HI141; have HB := n0_; have HI141 := n1_; clear n0_ n1_; (try clear hb); (try clear hb2); (try clear hk); (try clear hi)) | ((with_reducible refine gate_callee (f := 31) rfl ?_); refine goesL_ (some 31) rfl rfl Try.func31 (by kernel_rfl) rfl #[.pointer (some ⟨g141, 0, none⟩)] rfl (by (try simp only [List.map_toArray, List.map_cons, List.map_nil]); first | done | rfl | (simp only [List.length_drop, List.length_take]; rfl)) ?_; (with_reducible refine (pack_Reader_Err.calls g141 t146 t147 t151 t152 t153 w _ ?side1 ?side2 A33.out).mono ?_); (case side1 => repeat (first | (with_reducible first | exact HI141.out | apply IsS85.alloc | apply IsS85.drewN | apply IsS85.drew | apply IsS85.set_0 | apply IsS85.set_1) | exact HI141.out)); (case side2 => repeat (first | (with_reducible first | exact HB.out | apply below_alloc | apply pw_below_drewN | apply below_drew1 | refine below_set ?_ (IsS85.ge HI141.out)) | exact HB.out)); rintro e w37 ⟨rfl, hi, hb, hk⟩; refine ⟨_, rfl, ?_⟩; have n0_ := Aside0.mk (hb); have n1_ := Aside0.mk (hi); clear HB; clear HI141; have HB := n0_; have HI141 := n1_; clear n0_ n1_; (try clear hb); (try clear hb2); (try clear hk); (try clear hi)))
              go_ret3
              exact ⟨by first | rfl | (simp [errW_none, errW_some] <;> rfl) | (simp [*, errW_none, errW_some] <;> rfl), by repeat (first | (with_reducible first | exact HB.out | apply below_alloc | apply pw_below_drewN | apply below_drew1 | refine below_set ?_ (IsS85.ge HI141.out)) | exact HB.out)⟩
          · rw [if_neg c8] at H
            exact absurd H (by simp)
        · rw [if_neg c7] at H
          exact absurd H (by simp)
def bwUpto {α : Type} (f : Nat → α) (k : Nat) : List α := (List.range k).map f
theorem bwUpto_succ {α : Type} (f : Nat → α) (k : Nat) : bwUpto f (k + 1) = bwUpto f k ++ [f k] := by simp [bwUpto, List.range_succ]
theorem bwUpto_length {α : Type} (f : Nat → α) (k : Nat) : (bwUpto f k).length = k := by simp [bwUpto]
def bwKp (Bs b : Nat) (W W' : World) : Prop := ∀ k, k = Bs ∨ k = b → W'.heap[k]? = W.heap[k]?
theorem bwKp_t {Bs b : Nat} {A B C : World} (h : bwKp Bs b A B) (k : bwKp Bs b B C) : bwKp Bs b A C := fun i hi => (k i hi).trans (h i hi)
theorem bwKp_b {Bs b : Nat} {w : World} (h1 : Bs < w.heap.size) (h2 : b < w.heap.size) (W : World) (l : Nat) (o o' : Obj) (hl : w.heap.size ≤ l) (h : W.heap[l]? = some o) (_ : o.isCells = false) (_ : o.isWalk = false) : bwKp Bs b W (W.putObj l o') :=
  fun k hk => by
    have hlt := (Array.getElem?_eq_some_iff.1 h).1
    exact (grownBy_putObj' W l o').block k (by rcases hk with rfl | rfl <;> omega) (fun e => by cases e; rcases hk with rfl | rfl <;> omega)
theorem bwKp_cell {Bs b k j : Nat} {A B : World} (h : bwKp Bs b A B) (hk : k = Bs ∨ k = b) : B.cell? ⟨k, j, none⟩ = A.cell? ⟨k, j, none⟩ := by
  unfold World.cell?
  simp only [h k hk]
section
attribute [local go_sem] Oper.semAt_some
set_option maxRecDepth 100000 in
set_option maxHeartbeats 2000000 in
theorem bw_closure (F : Fence) (n : Nat) (h8 : F.fn 92) (hro : F.round = none) (hn : 1 ≤ n) (l Bs b off len cap : Nat) (f : Nat → Int) (hreach : len ≤ 140737488351232) (J Jx : List (Nat × Int) → World → Prop)
    (hY : ∀ pre x W, J pre W → pre.length < len → YieldAt F (n - 1) Try.prog l #[.int .i64 (x.1 : Int), .int .u8 x.2] W fun e W' =>
      (e = .returned (.bool true) ∧ J (pre ++ [x]) W' ∧ bwKp Bs b W W') ∨ (e = .returned (.bool false) ∧ Jx (pre ++ [x]) W'))
    (W : World) (hBs : W.cell? ⟨Bs, 0, none⟩ = some (.slice (some ⟨b, off, none⟩) len cap)) (hc : ∀ j, j < len → W.cell? ⟨b, off + j, none⟩ = some (.int .u8 (f j))) (h0 : J [] W) :
    CallsIn F n Try.prog 92 #[.func (.yield l) #[] #[], .pointer (some ⟨Bs, 0, none⟩)] W fun e W' => (∃ v, e = .returned v) ∧
      ((∃ ys, ys = bwUpto (fun j => (len - 1 - j, f (len - 1 - j))) len ∧ J ys W') ∨ (∃ pre, (∃ k, k ≤ len ∧ pre = bwUpto (fun j => (len - 1 - j, f (len - 1 - j))) k) ∧ Jx pre W')) := by
  have hu1 := Try.underlying42
  refine callsIn_of_wp Try.func92 rfl h8 ?_ hro
  simp only [Try.ntmps92, List.size_toArray, List.length_cons, List.length_nil, Nat.reduceAdd, Nat.reduceSub, Array.replicate_succ, Array.replicate_zero, List.push_toArray, List.append_toArray, List.nil_append, List.cons_append]
  gi_wp2
  gi_loopw [3] (fun i wr => ∃ k : Nat, k ≤ len ∧ i = .int .i64 ((len : Int) - 1 - k) ∧ J (bwUpto (fun j => (len - 1 - j, f (len - 1 - j))) k) wr ∧ bwKp Bs b W wr)
    (fun i _ => (intOf i + 1).toNat)
  case atStart => exact ⟨0, Nat.zero_le _, by simp [wrap64] <;> omega, h0, fun _ _ => rfl⟩
  case round =>
    obtain ⟨k, hk, rfl, hJs, hnx⟩ := hrel
    by_cases hlt : k < len
    · obtain ⟨fn, tmps, assign, body, hy, hR⟩ := hY _ (len - 1 - k, f (len - 1 - k)) wr hJs (by rw [bwUpto_length]; exact hlt)
      dsimp only at hy
      obtain ⟨m, hm⟩ : ∃ m, m = len - 1 - k := ⟨_, rfl⟩
      have hmi : (len : Int) - 1 - k = (m : Int) := by omega
      have hcx : wr.cell? ⟨b, off + m, none⟩ = some (.int .u8 (f m)) := (bwKp_cell hnx (.inr rfl)).trans (hc m (by omega))
      have hcs : wr.cell? ⟨Bs, 0, none⟩ = some (.slice (some ⟨b, off, none⟩) len cap) := (bwKp_cell hnx (.inl rfl)).trans hBs
      have hml : m < len := by omega
      rw [← hm] at hy hR
      rw [hmi]
      have HM := Aside0.mk hm
      have HI := Aside0.mk hmi
      clear hm hmi
      gi_wp2
      refine hR.mono ?_
      rintro e W3 (⟨rfl, hJ3, hk3⟩ | ⟨rfl, hJx3⟩)
      · gi_wp2
        go_roundw
        case rel => exact ⟨k + 1, by omega, by have := HI.out; have := HM.out; simp [wrap64] <;> omega, by rw [bwUpto_succ, ← HM.out]; exact hJ3, bwKp_t hnx hk3⟩
        case measure => have := HI.out; have := HM.out; simp [intOf, wrap64] <;> omega
      · gi_wp2
        refine bodyPost_ret (results_none rfl _ _ _) rfl ?_
        exact ⟨⟨_, rfl⟩, .inr ⟨_, ⟨k + 1, by omega, by rw [bwUpto_succ, ← HM.out]⟩, hJx3⟩⟩
    · obtain rfl : k = len := by omega
      gi_wp2
      go_end0
      exact ⟨⟨_, rfl⟩, .inl ⟨_, rfl, hJs⟩⟩
set_option maxHeartbeats 1000000 in
theorem bw_in (F : Fence) (n : Nat) (h6 : F.fn 85) (hro : F.round = none) (a : Option Addr) (len cap : Nat) (w : World) :
    CallsIn F n Try.prog 85 #[.slice a len cap] w fun e w' => e = .returned (.func (.func 92) #[] #[.pointer (some ⟨w.heap.size, 0, none⟩)]) ∧ w' = w.alloc (.cells #[.slice a len cap] 42) := by
  refine callsIn_of_wp Try.func85 rfl h6 ?_ hro
  simp only [Try.ntmps85, List.size_toArray, List.length_cons, List.length_nil, Nat.reduceAdd, Nat.reduceSub, Array.replicate_succ, Array.replicate_zero, List.push_toArray, List.append_toArray, List.nil_append, List.cons_append]
  gi_wp2
  go_ret
  exact ⟨rfl, rfl⟩
theorem bw_stops (F : Fence) (n : Nat) (h8 : F.fn 92) (hro : F.round = none) (hn : 1 ≤ n) (Bs b off len cap : Nat) (f : Nat → Int) (hreach : len ≤ 140737488351232) (w : World) (hBs : Bs < w.heap.size) (hb : b < w.heap.size)
    (hc : w.cell? ⟨Bs, 0, none⟩ = some (.slice (some ⟨b, off, none⟩) len cap)) (hI : ∀ j, j < len → w.cell? ⟨b, off + j, none⟩ = some (.int .u8 (f j))) :
    SeqStopsK F n Try.prog 92 #[.pointer (some ⟨Bs, 0, none⟩)] (fun x : Nat × Int => #[Value.int .i64 (x.1 : Int), Value.int .u8 x.2]) (bwKp Bs b) (fun ys => ys = bwUpto (fun j => (len - 1 - j, f (len - 1 - j))) len)
      (fun pre => ∃ k, k ≤ len ∧ pre = bwUpto (fun j => (len - 1 - j, f (len - 1 - j))) k) len w := fun l J Jx W hW _ _ hY h0 =>
  bw_closure F n h8 hro hn l Bs b off len cap f hreach J Jx hY W ((hW.cell (p := ⟨Bs, 0, none⟩) hBs).trans hc) (fun j hj => (hW.cell (p := ⟨b, off + j, none⟩) hb).trans (hI j hj)) h0
end
def pack_Reader_Fix.step (u b : Int) : Int := bits BinOp.or IntKind.u64 (IntKind.u64.wrap (u * 256)) (IntKind.u64.wrap b)
def pack_Reader_Fix.fold (pre : List (Nat × Int)) : Int := pre.foldl (fun u p => pack_Reader_Fix.step u p.2) 0
theorem pack_Reader_Fix.fold_snoc (pre : List (Nat × Int)) (x : Nat × Int) : pack_Reader_Fix.fold (pre ++ [x]) = pack_Reader_Fix.step (pack_Reader_Fix.fold pre) x.2 := by simp [pack_Reader_Fix.fold]
def pack_Reader_Fix.seq (r : ByteArray) : List (Nat × Int) := bwUpto (fun j => (r.size - 1 - j, ((r.data[r.size - 1 - j]?.getD 0).toNat : Int))) r.size
def pack_Reader_Fix.Inv (w2 : World) (u0 : Nat) (pre : List (Nat × Int)) (W : World) : Prop :=
  W.heap[u0]? = some (.cells #[.int .u64 (pack_Reader_Fix.fold pre)] 52 (0, 0)) ∧ Below u0 w2 W ∧ KeepBut w2 W u0 none
theorem pack_Reader_Fix.Inv_grown {w2 W W' : World} {u0 : Nat} {pre : List (Nat × Int)} {row : Option Nat} (h : pack_Reader_Fix.Inv w2 u0 pre W) (hu : u0 < w2.heap.size) (hg : W.grownBy W' row) (hr : ∀ r, row = some r → w2.heap.size ≤ r) : pack_Reader_Fix.Inv w2 u0 pre W' := by
  obtain ⟨h1, h2, h3⟩ := h
  refine ⟨(hg.block _ (blk_lt h1) (fun e => ?_)).trans h1, h2.grown hg (Nat.le_of_lt (blk_lt h1)) (fun k e => Nat.le_trans (Nat.le_of_lt hu) (hr k e)), Nat.le_trans h3.1 hg.size, fun i hi hne hn => (hg.block i (Nat.lt_of_lt_of_le hi h3.1) (fun e => ?_)).trans (h3.2 i hi hne hn)⟩
  · have := hr _ e.symm; omega
  · have := hr _ e.symm; omega
section
attribute [local go_sem] Oper.semAt_some
set_option maxHeartbeats 8000000 in
set_option maxRecDepth 100000 in
theorem pack_Reader_Fix.any (g : Nat) (s0_0 : ByteArray) (s0_1 : Int) (r1 : ByteArray) (r2 : ByteArray) (r3 : Int) (w0 w : World) (hI : IsS85 w0 w g s0_0 s0_1) (hB : Below w0.heap.size w0 w) (h : pack_Reader_Take.f s0_0 s0_1 8 = some (r1, r2, r3)) :
    Calls Try.prog 62 #[.pointer (some ⟨g, 0, none⟩)] w fun e w' => e = .returned (.int .u64 (pack_Reader_Fix.fold (pack_Reader_Fix.seq r1))) ∧ IsS85 w0 w' g r2 r3 ∧ Below w0.heap.size w0 w' ∧ KeepBut w w' g none := by
  have hge := hI.2
  have hw := hB.size
  have hlt := blk_lt hI.1
  have hr8 : r1.size ≤ 140737488351232 := by
    unfold pack_Reader_Take.f at h
    have he : (⟨#[]⟩ : ByteArray).size = 0 := rfl
    split at h
    · split at h
      · obtain rfl := (Prod.mk.inj (Option.some.inj h)).1
        rw [ByteArray.size_extract]
        omega
      · obtain rfl := (Prod.mk.inj (Option.some.inj h)).1
        omega
    · obtain rfl := (Prod.mk.inj (Option.some.inj h)).1
      omega
  refine (callsIn_wide (n := 3)).1 ?_
  refine callsIn_of_wp_marks Try.func62 rfl trivial ?_ rfl
  simp only [Try.ntmps62, List.size_toArray, List.length_cons, List.length_nil, Nat.reduceAdd, Nat.reduceSub, Array.replicate_succ, Array.replicate_zero, List.push_toArray, List.append_toArray, List.nil_append, List.cons_append]
  have HI := Aside0.mk (IsS85.alloc hI (.cells #[.int .u64 0] 52))
  have HB := Aside0.mk (below_alloc hB (.cells #[.int .u64 0] 52))
  have HK := Aside0.mk (keep_alloc (KeepBut.refl w g none) (.cells #[.int .u64 0] 52))
  gi_wp2_with (refine ⟨trivial, ?_⟩; gi_at_call 61; refine (callsIn_wide.2 (pack_Reader_Take.calls g _ _ 8 r1 r2 r3 w0 _ HI.out HB.out h)).mono ?_; rintro e w5 ⟨rfl, hI5, hB5, hK5⟩)
  rw [run_bytes_of_string (P := Try.prog) w5 9 42 5 r1 Try.underlying9 Try.underlying42 Try.underlying5]
  obtain ⟨cap, hcap⟩ : ∃ cap, cap = grownCap w5 r1.size 0 5 := ⟨_, rfl⟩
  rw [← hcap]
  have HBw := Aside0.mk hB5
  have HKw := Aside0.mk hK5
  have HIw := Aside0.mk hI5
  clear hB5 hK5 hI5 hcap
  gi_wp2_with (refine ⟨trivial, ?_⟩; gi_at_call 85; refine (bw_in Fence.wide _ trivial rfl _ _ _ _).mono ?_; rintro e w6 ⟨rfl, rfl⟩)
  obtain ⟨w2, hw2⟩ : ∃ W, W = ((w5.alloc (.cells (bytesRow r1 cap) 5 ((bytesRow r1 cap).size, (bytesRow r1 cap).size + 1))).alloc (.cells #[.slice (some ⟨w5.heap.size, 0, none⟩) r1.size cap] 42)).drew := ⟨_, rfl⟩
  have hh2 : w2.heap = ((w5.alloc (.cells (bytesRow r1 cap) 5 ((bytesRow r1 cap).size, (bytesRow r1 cap).size + 1))).alloc (.cells #[.slice (some ⟨w5.heap.size, 0, none⟩) r1.size cap] 42)).heap := by rw [hw2]; rfl
  have hs2 : w2.heap.size = w5.heap.size + 2 := by rw [hh2]; simp
  have hs5 : w.heap.size + 1 ≤ w5.heap.size := by have := HKw.out.1; simpa using this
  have hlow : ∀ k, k < w5.heap.size → w2.heap[k]? = w5.heap[k]? := fun k hk => by
    rw [hh2]
    exact (Below.heap_alloc _ _ _ (by simp; omega)).trans (Below.heap_alloc _ _ _ hk)
  have hu : w2.heap[w.heap.size]? = some (.cells #[.int .u64 0] 52 (0, 0)) := by
    rw [hlow _ (by omega), HKw.out.2 _ (by simp) (by omega) (by simp)]
    exact blk_new w _
  have hbs : w2.cell? ⟨w5.heap.size + 1, 0, none⟩ = some (.slice (some ⟨w5.heap.size, 0, none⟩) r1.size cap) := by
    have h := blk_new (w5.alloc (.cells (bytesRow r1 cap) 5 ((bytesRow r1 cap).size, (bytesRow r1 cap).size + 1))) (.cells #[.slice (some ⟨w5.heap.size, 0, none⟩) r1.size cap] 42)
    rw [← hh2, World.size_alloc] at h
    exact (blk_cell h 0).trans rfl
  have hby : ∀ j, j < r1.size → w2.cell? ⟨w5.heap.size, 0 + j, none⟩ = some (.int .u8 ((r1.data[j]?.getD 0).toNat : Int)) := fun j hj => by
    have h : w2.heap[w5.heap.size]? = some (.cells (bytesRow r1 cap) 5 ((bytesRow r1 cap).size, (bytesRow r1 cap).size + 1)) := by
      rw [hh2]
      exact (Below.heap_alloc _ _ _ (by simp)).trans (blk_new w5 _)
    rw [Nat.zero_add]
    have hj' : j < r1.data.size := hj
    refine (cell_of_row _ _ j _ _ _ h).trans ?_
    unfold bytesRow
    rw [Array.getElem?_append_left (by simpa using hj')]
    rw [Array.getElem?_map, Array.getElem?_eq_getElem hj']
    rfl
  have hI2 : IsS85 w0 w2 g r2 r3 := ⟨(hlow _ (blk_lt HIw.out.1)).trans HIw.out.1, HIw.out.2⟩
  have hB2 : Below w0.heap.size w0 w2 := by rw [hw2]; exact below_drew1 (below_alloc (below_alloc HBw.out _) _)
  have hK2 : KeepBut w w2 g none := ⟨by omega, fun i hi hne hn => (hlow i (by omega)).trans ((HKw.out.2 i (by simp; omega) hne hn).trans (Below.heap_alloc _ _ _ hi))⟩
  rw [← hw2]
  have U := Aside0.mk hu
  have HI2 := Aside0.mk hI2
  have HB2 := Aside0.mk hB2
  have HK2 := Aside0.mk hK2
  clear hw2 hh2 hlow HI HB HK HBw HKw HIw hI hB hu hI2 hB2 hK2 h
  refine wpIn_rangeFunc_ownG rfl (by omega) (gf := 92) (lb := #[.pointer (some ⟨w5.heap.size + 1, 0, none⟩)]) rfl trivial (enters_of Try.func92 (by kernel_rfl) rfl)
    (bw_stops Fence.wide (3 - 1) trivial rfl (by omega) (w5.heap.size + 1) w5.heap.size 0 r1.size cap (fun j => ((r1.data[j]?.getD 0).toNat : Int)) hr8 w2 (by omega) (by omega) hbs hby) bwKp_t (bwKp_b (by omega) (by omega)) (Below.refl _ _) (fun _ => rfl)
    (pack_Reader_Fix.Inv w2 w.heap.size)
    (fun _ _ _ => False)
    (fun s A B row hs hg hr => pack_Reader_Fix.Inv_grown hs (by omega) hg (fun r e => (hr r e).1))
    (fun _ _ _ _ _ hs _ _ => hs)
    ⟨U.out, Below.refl _ _, KeepBut.refl _ _ _⟩
    (fun x => { tmps := #[.pointer (some ⟨g, 0, none⟩), undef, .int .u64 0, .pointer (some ⟨w.heap.size, 0, none⟩), undef, .int .u8 x.2, .pointer (some ⟨g, 0, none⟩), .string r1, .slice (some ⟨w5.heap.size, 0, none⟩) r1.size cap, .func (.func 92) #[] #[.pointer (some ⟨w5.heap.size + 1, 0, none⟩)], .int .i64 (x.1 : Int), .int .u8 x.2, undef, undef, undef, undef, undef, undef], defers := [] }) ?assign ?body ?done ?stop
  case assign =>
    intro l x W K hK
    gi_wp2
    exact hK
  case body =>
    rintro l pre x W hInv _
    have hc := (blk_cell hInv.1 0).trans rfl
    have hf : W.frozen? ⟨w.heap.size, 0, none⟩ = false := blk_frozen hInv.1 0
    gi_wp2
    refine ⟨(KeepsOthers.setCell _ _ _).from _, fun k hk => ?_, ?_⟩
    · exact Below.heap_setCell W _ _ _ (by rcases hk with rfl | rfl <;> simp <;> omega)
    · refine ⟨?_, hInv.2.1.setCell (p := ⟨w.heap.size, 0, none⟩) (Nat.le_refl _) _, hInv.2.2.set_ 0 _⟩
      rw [pack_Reader_Fix.fold_snoc]
      exact blk_set hInv.1 0 _
  case done =>
    rintro D ys W hD rfl hInv hK
    have hc := (blk_cell hInv.1 0).trans rfl
    gi_wp2
    refine ⟨by simp, .inl ⟨_, _, rfl, run_takeDeferred hK, ?_⟩⟩
    have hInv' := pack_Reader_Fix.Inv_grown hInv (by omega) (grownBy_putObj' W D (.deferred none)) (fun r e => by cases e; exact hD)
    refine ⟨_, results_tmp rfl _ _ _, rfl, ⟨?_, HI2.out.2⟩, HB2.out.trans (hInv'.2.1.mono hw), ?_⟩
    · exact (hInv'.2.2.2 _ (by omega) (by omega) (by simp)).trans HI2.out.1
    · exact ⟨by have := hInv'.2.2.1; omega, fun i hi hne hn => (hInv'.2.2.2 _ (by omega) (by omega) (by simp)).trans (HK2.out.2 i hi hne hn)⟩
  case stop =>
    rintro D c pre W _ _ h _
    exact h.elim
end
def pack_Reader_Fix.f (s : ByteArray) (k : Int) : Option (Int × ByteArray × Int) := (pack_Reader_Take.f s k 8).bind fun r => some (pack_Reader_Fix.fold (pack_Reader_Fix.seq r.1), r.2.1, r.2.2)
theorem pack_Reader_Fix.calls (g : Nat) (s0_0 : ByteArray) (s0_1 : Int) (r1 : Int) (r2 : ByteArray) (r3 : Int) (w0 w : World) (hI : IsS85 w0 w g s0_0 s0_1) (hB : Below w0.heap.size w0 w) (h : pack_Reader_Fix.f s0_0 s0_1 = some (r1, r2, r3)) :
    Calls Try.prog 62 #[.pointer (some ⟨g, 0, none⟩)] w fun e w' => e = .returned (.int .u64 r1) ∧ IsS85 w0 w' g r2 r3 ∧ Below w0.heap.size w0 w' ∧ KeepBut w w' g none := by
  unfold pack_Reader_Fix.f at h
  obtain ⟨⟨x, y, z⟩, h1, h⟩ := Option.bind_eq_some_iff.mp h
  obtain ⟨rfl, rfl, rfl⟩ := by simpa using h
  exact pack_Reader_Fix.any g s0_0 s0_1 x y z w0 w hI hB h1
theorem mulR_at {D : Nat} (h : D < 9007199254740992) {x k : Int} (hx : -1074 ≤ x) (hx2 : x ≤ 971) (hk : -1074 ≤ k) (hk2 : k ≤ 1023) (hxk : -1074 ≤ x + k) (W : World) :
    (binOp .mul 28 (.float .f64 (Fl.R0 D x)) (.float .f64 (Fl.rung 1 k))).run Try.prog W = .ok (.float .f64 (Fl.R0 D (x + k))) W :=
  run_float_arith W .mul 28 .f64 _ _ _ (Fl.R0_mulk h hx hx2 hk hk2 hxk)
theorem pow_half (i : Int) (h0 : 0 ≤ i) (h1 : i < 10) : (2 : Int) ^ (10 - i).toNat = 2 * 2 ^ (9 - i).toNat := by
  rw [show (10 - i).toNat = (9 - i).toNat + 1 by omega, Int.pow_succ]
  omega
set_option maxHeartbeats 8000000 in
set_option maxRecDepth 100000 in
theorem bits_scale.calls {D : Nat} (h : D < 9007199254740992) (N : Int) (hN : -1074 ≤ N) (hN2 : N ≤ 971) (w : World) :
    Calls Try.prog 86 #[.float .f64 (Fl.R0 D 0), .int .i64 N] w fun e_ w' => e_ = .returned (.float .f64 (Fl.R0 D N)) ∧ Below w.heap.size w w' := by
  obtain ⟨PV, hPV⟩ : ∃ v, v = powersV := ⟨_, rfl⟩
  have hu := Try.underlying102
  go_enter Try.func86, Try.ntmps86
  go_wp2_with (first | (go_at_call 78; (with_reducible refine (bits_powers.calls _).mono ?_); rintro e' w1 ⟨rfl, hb1⟩))
  rw [← hPV]
  have HPV := Aside0.mk hPV
  clear hPV
  have HB1 := Aside0.mk hb1
  clear hb1
  go_loopg [0, 1, 8] 11 (fun kq v0 v1 v8 w' => ∃ (x n i : Int), v0 = .float .f64 (Fl.R0 D x) ∧ v1 = .int .i64 n ∧ v8 = .int .i64 i ∧ Aside0 (0 ≤ i ∧ i ≤ 10 ∧ 10 - i < kq ∧ x + n = N ∧ -1074 ≤ x ∧ x ≤ 971 ∧ -2000 < n ∧ n < 2000 ∧ (0 ≤ N → 0 ≤ n) ∧ (N ≤ 0 → n ≤ 0) ∧ (i = 0 ∨ (-(2 ^ (10 - i).toNat : Int) < n ∧ n < 2 ^ (10 - i).toNat))) ∧ Aside0 (Below w.heap.size w w'))
  case atStart => exact ⟨0, N, 0, by first | rfl | simp, by first | rfl | simp, by first | rfl | simp, ⟨by omega⟩, HB1⟩
  case round =>
    clear HB1
    obtain ⟨x, n, i, rfl, rfl, rfl, HK, HB⟩ := hrel
    by_cases hi : i < 10
    · cases gk with
      | zero => have := HK.out; exact absurd this (by omega)
      | succ k1 =>
        have d1 : decide (i < 10) = true := decide_eq_true hi
        have hk := HK.out
        obtain ⟨p, ⟨hp1, hp2, hp3⟩, hidx⟩ := power_at i hk.1 hi
        have hpw := pow_half i hk.1 hi
        rw [← hp3] at hpw
        have HPW := Aside0.mk hpw
        have HP3 := Aside0.mk hp3
        have hB : (i = 0 → p = 512) := by intro h; rw [hp3, h]; rfl
        have hB2 : -(2 * p) - (if i = 0 then 2000 else 0) < n ∧ n < 2 * p + (if i = 0 then 2000 else 0) := by
          rw [hpw] at hk
          split <;> omega
        have HB2 := Aside0.mk hB2
        have rw1 : IntKind.i64.wrap (i + 1) = i + 1 := by rw [IntKind.wrap_i64]; omega
        have HIX := Aside0.mk hidx
        have HKK := Aside0.mk hk
        clear hidx hpw hp3 hB hB2
        obtain ⟨W0, hW0⟩ : ∃ W, W = wr.alloc (.cells #[.int .i64 p, .float .f64 (Fl.rung 1 p), .float .f64 (Fl.rung 1 (-p))] 102) := ⟨_, rfl⟩
        have HW0 := Aside0.mk hW0
        clear hW0
        go_wp2_with (first | ((with_reducible refine gate_dst (N := 10) rfl ?_); refine Kd.event_run rfl (index_run rfl HPV.out rfl (HIX.out _)) ?_))
        go_loopg [0, 1] 3000 (fun kq v0 v1 w' => ∃ (x n : Int), v0 = .float .f64 (Fl.R0 D x) ∧ v1 = .int .i64 n ∧ Aside0 (n < kq ∧ x + n = N ∧ -1074 ≤ x ∧ x ≤ 971 ∧ -2000 < n ∧ n < 2000 ∧ (0 ≤ N → 0 ≤ n) ∧ (N ≤ 0 → n ≤ 0) ∧ -(2 * p) - (if i = 0 then 2000 else 0) < n) ∧ Aside0 (w' = W0))
        case atStart => exact ⟨x, n, by rfl, by rfl, ⟨by have := HB2.out.1; omega⟩, ⟨HW0.out.symm⟩⟩
        case round =>
          obtain ⟨x, n, rfl, rfl, HK2, HW⟩ := hrel
          have e1 := HW.out.trans HW0.out
          subst e1
          have hk2 := HK2.out
          by_cases c1 : p ≤ n
          · cases gk with
            | zero => exact absurd c1 (by omega)
            | succ k2 =>
              have s1 : decide (n ≥ p) = true := decide_eq_true c1
              have m1 := mulR_at h (x := x) (k := p) (by omega) (by omega) (by omega) (by omega) (by omega)
              have rw2 : IntKind.i64.wrap (n - p) = n - p := by rw [IntKind.wrap_i64]; omega
              go_wp2
              go_roundg k2
              case measure => omega
              case rel => exact ⟨x + p, n - p, by rfl, by first | rfl | simp [goInt, rw2], ⟨by split at hk2 <;> (try split) <;> omega⟩, ⟨HW0.out.symm⟩⟩
          · have s1 : decide (n ≥ p) = false := decide_eq_false c1
            go_wp2
            go_loopg [0, 1] 3000 (fun kq v0 v1 w' => ∃ (x n : Int), v0 = .float .f64 (Fl.R0 D x) ∧ v1 = .int .i64 n ∧ Aside0 (-n < kq ∧ x + n = N ∧ -1074 ≤ x ∧ x ≤ 971 ∧ -2000 < n ∧ n < p ∧ (0 ≤ N → 0 ≤ n) ∧ (N ≤ 0 → n ≤ 0)) ∧ Aside0 (w' = W0))
            case atStart => exact ⟨x, n, by rfl, by rfl, ⟨by omega⟩, ⟨HW0.out.symm⟩⟩
            case round =>
              clear HK2 HW hk2 c1 s1
              obtain ⟨x, n, rfl, rfl, HK2, HW⟩ := hrel
              have e1 := HW.out.trans HW0.out
              subst e1
              have hk2 := HK2.out
              have rwn : IntKind.i64.wrap (-p) = -p := by rw [IntKind.wrap_i64]; omega
              by_cases c1 : n ≤ -p
              · cases gk with
                | zero => exact absurd c1 (by omega)
                | succ k2 =>
                  have s1 : decide (n ≤ -p) = true := decide_eq_true c1
                  have m1 := mulR_at h (x := x) (k := -p) (by omega) (by omega) (by omega) (by omega) (by omega)
                  have rw2 : IntKind.i64.wrap (n + p) = n + p := by rw [IntKind.wrap_i64]; omega
                  go_wp2
                  go_roundg k2
                  case measure => omega
                  case rel => exact ⟨x + -p, n + p, by rfl, by first | rfl | simp [goInt, rw2], ⟨by omega⟩, ⟨HW0.out.symm⟩⟩
              · have s1 : decide (n ≤ -p) = false := decide_eq_false c1
                go_wp2
                go_roundg k1
                case measure => have := HKK.out; omega
                case rel =>
                  refine ⟨x, n, i + 1, by rfl, by rfl, by first | rfl | simp [goInt, rw1], ⟨?_⟩, ⟨HB.out.alloc HB.out.size _⟩⟩
                  have hkk := HKK.out
                  have h3 := HP3.out
                  rw [show (10 - (i + 1)).toNat = (9 - i).toNat by omega, ← h3]
                  omega
    · have d1 : decide (i < 10) = false := decide_eq_false hi
      have hk := HK.out
      have hi10 : i = 10 := by omega
      rw [hi10] at hk
      have hn : n = 0 := by
        have : (2 : Int) ^ (10 - 10 : Int).toNat = 1 := by decide
        omega
      have hx : x = N := by omega
      clear hk
      have HX := Aside0.mk hx
      clear hx hn hi10
      go_wp2
      go_ret
      exact ⟨by rw [← HX.out]; rfl, HB.out⟩
def bits_Float.f (a0 : Int) : Option Int := if 0 ≤ a0 ∧ a0 < 18446744073709551616 then some (canonF a0.toNat : Nat) else none
theorem float_at {D : Nat} (h : D < 9007199254740992) (W : World) : (convert 52 28 (.int .u64 (D : Int))).run Try.prog W = .ok (.float .f64 (Fl.R0 D 0)) W := by
  have := run_convert_int_float (P := Try.prog) W 52 28 .u64 .f64 (D : Int) (by kernel_rfl) Try.underlying28
  rwa [Fl.floatOf_nat h] at this
theorem mask_e (x : Int) (h0 : 0 ≤ x) (h1 : x < 18446744073709551616) : bits .and .u64 (x / 4503599627370496) 2047 = x / 4503599627370496 % 2048 := u64_mask 11 (by omega) _ (by omega) (by omega)
theorem mask_m (x : Int) (h0 : 0 ≤ x) (h1 : x < 18446744073709551616) : bits .and .u64 x 4503599627370495 = x % 4503599627370496 := u64_mask 52 (by omega) _ h0 h1
theorem fields_of (x : Nat) (hx : x < 18446744073709551616) :
    (9218868437227405312 < x % 9223372036854775808 ∧ (x : Int) / 4503599627370496 % 2048 = 2047 ∧ (x : Int) % 4503599627370496 ≠ 0) ∨
    (∃ s, x = Fl.inf s ∧ (x : Int) / 4503599627370496 % 2048 = 2047 ∧ (x : Int) % 4503599627370496 = 0) ∨
    ∃ s D, ∃ N : Int, D < 9007199254740992 ∧ -1074 ≤ N ∧ N ≤ 971 ∧ x = Ieee.double.word s (Fl.R0 D N) ∧ Fl.R0 D N ≤ 9218868437227405312 ∧
      (((x : Int) / 4503599627370496 % 2048 = 0 ∧ D = (x % 4503599627370496 : Nat) ∧ N = -1074) ∨
       (0 < (x : Int) / 4503599627370496 % 2048 ∧ (x : Int) / 4503599627370496 % 2048 < 2047 ∧ (D : Int) = x % 4503599627370496 + 4503599627370496 ∧ N = (x : Int) / 4503599627370496 % 2048 - 1075)) := by
  rcases Fl.classify x hx with hn | hz | hz | ⟨s, m, e, hm, hm2, he, hE, hz, hform⟩
  · exact .inl ⟨hn, by omega, by omega⟩
  · obtain ⟨s, hz⟩ := hz
    refine .inr (.inr ⟨s, 0, -1074, by omega, by omega, by omega, by rw [hz]; cases s <;> rfl, by unfold Fl.R0; rw [if_pos rfl]; omega, .inl ?_⟩)
    cases s
    · have : x = 0 := hz
      subst this
      decide
    · have : x = 9223372036854775808 := hz
      subst this
      decide
  · obtain ⟨s, hz⟩ := hz
    refine .inr (.inl ⟨s, hz, ?_⟩)
    cases s
    · have : x = 9218868437227405312 := hz
      omega
    · have : x = 18442240474082181120 := hz
      omega
  · have hv := Fl.word_val s (Fl.rung m e)
    rw [← hz] at hv
    have hR : Fl.R0 m e = Fl.rung m e := by unfold Fl.R0; rw [if_neg hm]
    obtain ⟨_, h1, h2⟩ := Fl.read_rung s hm hm2 he hE
    refine .inr (.inr ⟨s, m, e, hm2, he, ?_, by rw [hR]; exact hz, by omega, ?_⟩)
    · rcases hform with ⟨_, f2, _, _⟩ | ⟨_, _, f3, _⟩ <;> omega
    · rcases hform with ⟨f1, f2, f3, f4⟩ | ⟨f1, f2, f3, f4⟩
      · left
        cases s
        · simp only [Bool.false_eq_true, if_false] at hv
          exact ⟨by omega, by omega, f2⟩
        · simp only [if_true] at hv
          exact ⟨by omega, by omega, f2⟩
      · right
        cases s
        · simp only [Bool.false_eq_true, if_false] at hv
          exact ⟨by omega, by omega, by omega, by omega⟩
        · simp only [if_true] at hv
          exact ⟨by omega, by omega, by omega, by omega⟩
set_option maxHeartbeats 8000000 in
set_option maxRecDepth 100000 in
theorem bits_Float.calls (a0 : Int) (r : Int) (w : World) (h : bits_Float.f a0 = some r) :
    Calls Try.prog 63 #[.int .u64 a0] w fun e_ w' => ∃ b0_ : Nat, e_ = .returned (.float .f64 b0_) ∧ FB b0_ r ∧ Below w.heap.size w w' := by
  unfold bits_Float.f at h
  by_cases ha : 0 ≤ a0 ∧ a0 < 18446744073709551616
  case neg => rw [if_neg ha] at h; exact absurd h (by simp)
  rw [if_pos ha] at h
  obtain rfl := Option.some.inj h
  clear h
  obtain ⟨x, rfl⟩ : ∃ x : Nat, a0 = x := ⟨a0.toNat, by omega⟩
  rw [Int.toNat_natCast]
  have hx : x < 18446744073709551616 := by omega
  have k1 := mask_e x (by omega) (by omega)
  have k2 := mask_m x (by omega) (by omega)
  rcases fields_of x hx with ⟨hn, f1, f2⟩ | ⟨s, hz, f1, f2⟩ | ⟨s, D, N, hD, hN1, hN2, hz, hle, hform⟩
  · have hc : canonF x = 9221120237041090560 := by unfold canonF; rw [if_pos hn]
    rw [hc]
    have d1 : decide ((x : Int) / 4503599627370496 % 2048 = 2047) = true := decide_eq_true f1
    have d2 : decide ((x : Int) % 4503599627370496 = 0) = false := decide_eq_false f2
    have q := nan_run Try.prog 28
    go_enter Try.func63, Try.ntmps63
    go_wp2
    go_ret
    exact ⟨_, rfl, FB_nan w, below_drew (Below.refl _ _)⟩
  · have hc : canonF x = x := by unfold canonF; rw [hz]; cases s <;> rfl
    rw [hc]
    have d1 : decide ((x : Int) / 4503599627370496 % 2048 = 2047) = true := decide_eq_true f1
    have d2 : decide ((x : Int) % 4503599627370496 = 0) = true := decide_eq_true f2
    have q : ∀ W, (binOp .quo 28 (.float .f64 4607182418800017408) (.float .f64 0)).run Try.prog W = .ok (.float .f64 (Fl.inf false)) W := fun W => run_float_arith W .quo 28 .f64 _ _ _ (by decide)
    have hng := neg_run Try.prog
    have k3 := sign_and x (by omega)
    have HZ := Aside0.mk hz
    have hng : ∀ W, (Op.unary .neg (.float .f64 (Fl.inf false))).run Try.prog W = .ok (.float .f64 (Fl.inf true)) W := by
      have h : Op.negFloat .f64 (Fl.inf false) = Fl.inf true := by decide
      intro W
      simp only [Op.unary, h, Sem.run_pure]
    cases s
    · rw [if_neg (by rw [hz]; decide)] at k3
      clear hz
      go_enter Try.func63, Try.ntmps63
      go_wp2
      go_ret
      exact ⟨_, rfl, by rw [HZ.out]; exact FB_inf false, Below.refl _ _⟩
    · rw [if_pos (by rw [hz]; decide)] at k3
      clear hz
      go_enter Try.func63, Try.ntmps63
      go_wp2
      go_ret
      exact ⟨_, rfl, by rw [HZ.out]; exact FB_inf true, Below.refl _ _⟩
  · have hc : canonF x = x := by rw [hz]; exact Fl.canonF_fin s hle
    rw [hc]
    have HZ := Aside0.mk hz
    have k3 := sign_and x hx
    have hwg := word_ge s (r := Fl.R0 D N) (by omega)
    rw [← hz] at hwg
    have hfb : FB x (x : Nat) := by rw [hz]; exact FB_word s hle
    have HFB := Aside0.mk hfb
    have hsc := fun W => bits_scale.calls hD N hN1 hN2 W
    have hng : ∀ W, (Op.unary .neg (.float .f64 (Fl.R0 D N))).run Try.prog W = .ok (.float .f64 (Ieee.double.word true (Fl.R0 D N))) W := fun W => by
      have := neg_run Try.prog W false (r := Fl.R0 D N) (by omega)
      rwa [Fl.word_false] at this
    have fa := float_at hD
    rcases hform with ⟨f1, f2, f3⟩ | ⟨f1, f1', f2, f3⟩
    · have d1 : decide ((x : Int) / 4503599627370496 % 2048 = 2047) = false := decide_eq_false (by omega)
      have d3 : decide ((x : Int) / 4503599627370496 % 2048 = 0) = true := decide_eq_true f1
      have f2' : (x : Int) % 4503599627370496 = (D : Int) := by omega
      rw [f3] at hsc hng
      have HNG := Aside0.mk hng
      have HN := Aside0.mk f3
      clear hng
      cases s
      · rw [if_neg (by rw [hwg]; decide)] at k3
        clear hz hwg hfb f2 f3 hle
        go_enter Try.func63, Try.ntmps63
        go_wp2_with (first | (go_at_call 86; (with_reducible refine (hsc _).mono ?_); rintro e' w1 ⟨rfl, hb1⟩))
        go_ret
        exact ⟨_, rfl, by have := HFB.out; rw [HZ.out, Fl.word_false, HN.out] at this ⊢; exact this, below_then (Below.refl _ _) (Nat.le_refl _) hb1⟩
      · rw [if_pos (by rw [hwg])] at k3
        clear hz hwg hfb f2 f3 hle
        have hng := HNG.out
        go_enter Try.func63, Try.ntmps63
        go_wp2_with (first | (go_at_call 86; (with_reducible refine (hsc _).mono ?_); rintro e' w1 ⟨rfl, hb1⟩))
        go_ret
        exact ⟨_, rfl, by have := HFB.out; rw [HZ.out, HN.out] at this ⊢; exact this, below_then (Below.refl _ _) (Nat.le_refl _) hb1⟩
    · have d1 : decide ((x : Int) / 4503599627370496 % 2048 = 2047) = false := decide_eq_false (by omega)
      have d3 : decide ((x : Int) / 4503599627370496 % 2048 = 0) = false := decide_eq_false (by omega)
      have o1 := or_52 ((x : Int) % 4503599627370496) (by omega) (by omega)
      rw [show (x : Int) % 4503599627370496 + 4503599627370496 = (D : Int) by omega] at o1
      have HNG := Aside0.mk hng
      have HN := Aside0.mk f3
      have hsc : ∀ W, Calls Try.prog 86 #[.float .f64 (Fl.R0 D 0), .int .i64 ((x : Int) / 4503599627370496 % 2048 - 1023 - 52)] W fun e_ w' => e_ = .returned (.float .f64 (Fl.R0 D N)) ∧ Below W.heap.size W w' := fun W => by
        have := hsc W
        rw [f3, show (x : Int) / 4503599627370496 % 2048 - 1075 = (x : Int) / 4503599627370496 % 2048 - 1023 - 52 by omega] at this
        rw [f3, show (x : Int) / 4503599627370496 % 2048 - 1075 = (x : Int) / 4503599627370496 % 2048 - 1023 - 52 by omega]
        exact this
      clear hng
      cases s
      · rw [if_neg (by rw [hwg]; decide)] at k3
        clear hz hwg hfb f2 f3 hle
        go_enter Try.func63, Try.ntmps63
        go_wp2_with (first | (go_at_call 86; (with_reducible refine (hsc _).mono ?_); rintro e' w1 ⟨rfl, hb1⟩))
        go_ret
        exact ⟨_, rfl, by have := HFB.out; rw [HZ.out, Fl.word_false] at this ⊢; exact this, below_then (Below.refl _ _) (Nat.le_refl _) hb1⟩
      · rw [if_pos (by rw [hwg])] at k3
        clear hz hwg hfb f2 f3 hle
        have hng := HNG.out
        go_enter Try.func63, Try.ntmps63
        go_wp2_with (first | (go_at_call 86; (with_reducible refine (hsc _).mono ?_); rintro e' w1 ⟨rfl, hb1⟩))
        go_ret
        exact ⟨_, rfl, by have := HFB.out; rw [HZ.out] at this ⊢; exact this, below_then (Below.refl _ _) (Nat.le_refl _) hb1⟩
def bits_Canon.f (a0 : Int) : Option (Bool) := if (Go.bits .and .u64 (a0 / 4503599627370496) 2047) = 2047 then (if (Go.bits .and .u64 a0 4503599627370495) = 0 then (some true) else (some (a0 == 9221120237041090560))) else (some true)
set_option maxHeartbeats 8000000 in
set_option maxRecDepth 100000 in
theorem bits_Canon.calls (a0 : Int) (r : Bool) (w : World) (h : bits_Canon.f a0 = some r) :
    Calls Try.prog 64 #[.int .u64 a0] w fun e w' => e = .returned (.bool r) ∧ Drawn0 w w' := by
  have H : (if (Go.bits .and .u64 (a0 / 4503599627370496) 2047) = 2047 then (if (Go.bits .and .u64 a0 4503599627370495) = 0 then (some true) else (some (a0 == 9221120237041090560))) else (some true)) = some r := h
  clear h
  by_cases c2 : (Go.bits .and .u64 (a0 / 4503599627370496) 2047) = 2047
  · rw [if_pos c2] at H
    have c2b0 : ((Go.bits .and .u64 (a0 / 4503599627370496) 2047) == 2047) = true := beq_iff_eq.mpr c2
    have c2b1 : ((Go.bits .and .u64 (a0 / 4503599627370496) 2047) != 2047) = false := bne_eq_false_iff_eq.mpr c2
    clear c2
    by_cases c3 : (Go.bits .and .u64 a0 4503599627370495) = 0
    · rw [if_pos c3] at H
      have c3b0 : ((Go.bits .and .u64 a0 4503599627370495) == 0) = true := beq_iff_eq.mpr c3
      have c3b1 : ((Go.bits .and .u64 a0 4503599627370495) != 0) = false := bne_eq_false_iff_eq.mpr c3
      clear c3
      obtain rfl := Option.some.inj H
      go_enter Try.func64, Try.ntmps64
      go_wp2
      go_ret
      exact ⟨by first | rfl | (simp; done) | (simp [*]; done), by repeat (first | exact Drawn0.refl _ | apply Drawn0.step)⟩
    · rw [if_neg c3] at H
      have c3b0 : ((Go.bits .and .u64 a0 4503599627370495) == 0) = false := beq_eq_false_iff_ne.mpr c3
      have c3b1 : ((Go.bits .and .u64 a0 4503599627370495) != 0) = true := bne_iff_ne.mpr c3
      obtain rfl := Option.some.inj H
      go_enter Try.func64, Try.ntmps64
      go_wp2
      go_ret
      exact ⟨by first | rfl | (simp; done) | (simp [*]; done), by repeat (first | exact Drawn0.refl _ | apply Drawn0.step)⟩
  · rw [if_neg c2] at H
    have c2b0 : ((Go.bits .and .u64 (a0 / 4503599627370496) 2047) == 2047) = false := beq_eq_false_iff_ne.mpr c2
    have c2b1 : ((Go.bits .and .u64 (a0 / 4503599627370496) 2047) != 2047) = true := bne_iff_ne.mpr c2
    obtain rfl := Option.some.inj H
    go_enter Try.func64, Try.ntmps64
    go_wp2
    go_ret
    exact ⟨by first | rfl | (simp; done) | (simp [*]; done), by repeat (first | exact Drawn0.refl _ | apply Drawn0.step)⟩
end Go.Proofs.Ytfgnjndfnijjoaa.Print
end
