/- Part 5 of what RowsSizes, RowsBack stands on: merged by a program of this session out of its texts. -/
import Derived.Test.YtfgnjndfnijjoaaCSRowsSizes4
section
namespace Go.Proofs.Ytfgnjndfnijjoaa.Print
open Go.RowKit Go.Proofs.YtfgnjndfnijjoaaW.PrintWords Go.Proofs.YtfgnjndfnijjoaaW.PrintLast Go.Proofs.YtfgnjndfnijjoaaW.PrintMore
attribute [local go_sem] max2_int min2_int max_two min_two max_three min_three max_four min_four
attribute [local go_sem] run_store_float
set_option linter.unusedVariables false
set_option linter.unusedSimpArgs false
def bonsairef13_May.l0 : Nat → List (S30) → Int → Option (Bool)
  | 0, _, _ => none
  | k + 1, x0, x3 => if x3 < (x0.length : Int) then (if 0 ≤ x3 then ((bonsairef13_One.f k ((rd_T30 x0 x3).f0.f0) ((rd_T30 x0 x3).f0.f1) ((rd_T30 x0 x3).f1) ((rd_T30 x0 x3).f2) ((rd_T30 x0 x3).f3) ((rd_T30 x0 x3).f4)).bind fun t270 => (if t270 = true then (if x3 > 0 then (if 0 ≤ (wrap64 (x3 - 1)) then (if (wrap64 (x3 - 1)) < (x0.length : Int) then ((bonsairef02_Before.f ((rd_T30 x0 (wrap64 (x3 - 1))).f0.f0) ((rd_T30 x0 (wrap64 (x3 - 1))).f0.f1) ((rd_T30 x0 x3).f0.f0) ((rd_T30 x0 x3).f0.f1)).bind fun t273 => (if t273 = true then (bonsairef13_May.l0 k x0 (wrap64 (x3 + 1))) else (some false))) else (none)) else (none)) else (bonsairef13_May.l0 k x0 (wrap64 (x3 + 1)))) else (some false))) else (none)) else (some true)
def bonsairef13_May.f (k : Nat) (l0 : List (S30)) : Option (Bool) := if (l0.length : Int) > 2000 then (some false) else (bonsairef13_May.l0 k l0 0)
def bonsairef13_May.T6 : Bool × List (List Nat × List Nat) := (true, [([], []), ([], []), ([0, 1], [0, 1]), ([2], [2]), ([3], [3]), ([4], [4]), ([5, 4], [5]), ([6], [6]), ([7, 6], [6, 7]), ([8, 6, 6], [6, 8]), ([9], [9]), ([9], [9]), ([11, 9], [9, 11]), ([10, 12, 9], [9, 10, 12]), ([13, 9], [9, 13]), ([14, 9], [9, 14]), ([9], [9]), ([9], [9]), ([16, 17, 9], [9, 16, 17]), ([18, 9], [9, 18]), ([19, 9], [9, 19]), ([15, 20, 9, 9], [9, 15, 20]), ([21, 9], [9, 21]), ([9, 22, 6], [6, 9, 22]), ([6, 23], [6, 23])])
def bonsairef13_May.B6 : List Nat := [0, 0, 3, 7, 15, 31, 63, 127, 255, 511, 1023, 1023, 3071, 8191, 16383, 32767, 1023, 1023, 197631, 459775, 984063, 2097151, 4194303, 8388607, 16777215]
theorem bonsairef13_May.tab6 : rtab .any (opsOf Try.f16 6) = bonsairef13_May.T6 := by kernel_rfl
theorem bonsairef13_May.bits6 : waitsOk bonsairef13_May.T6.2 bonsairef13_May.B6 = true := by kernel_rfl
set_option maxHeartbeats 8000000 in
set_option maxRecDepth 100000 in
theorem bonsairef13_May.calls (k : Nat) (A0 : Option Addr) (c0 : Nat) (l0 : List (S30)) (r : Bool) (w : World) (hr0 : Kd.C k30 w A0 l0.length l0) (hc0 : l0.length ≤ c0) (h : bonsairef13_May.f k l0 = some r) :
    Calls Try.prog 16 #[.slice A0 l0.length c0] w fun e w' => e = .returned (.bool r) ∧ Below w.heap.size w w' := by
  have hu30 := Try.underlying30
  have hu27 := Try.underlying27
  have HR0 := Aside0.mk hr0
  have HC0 := Aside0.mk hc0
  clear hr0 hc0
  have HB := Aside0.mk (Below.refl w.heap.size w)
  have H : (if (l0.length : Int) > 2000 then (some false) else (bonsairef13_May.l0 k l0 0)) = some r := h
  clear h
  by_cases c2 : (l0.length : Int) > 2000
  · rw [if_pos c2] at H
    have c2b0 : decide (2000 < (l0.length : Int)) = true := decide_eq_true c2
    have c2b1 : decide (2000 < l0.length) = true := decide_eq_true (by omega)
    clear c2
    obtain rfl := Option.some.inj H
    go_enter Try.func16, Try.ntmps16
    go_wp2
    go_ret
    exact ⟨by first | rfl | (simp [errW_none, errW_some] <;> rfl) | (simp [*, errW_none, errW_some] <;> rfl), by repeat (first | (with_reducible first | exact HB.out | apply below_alloc | apply pw_below_drewN | apply below_drew1) | exact HB.out)⟩
  · rw [if_neg c2] at H
    have c2b0 : decide (2000 < (l0.length : Int)) = false := decide_eq_false c2
    have c2b1 : decide (2000 < l0.length) = false := decide_eq_false (by omega)
    clear c2
    have H' := Aside0.mk H
    clear H
    go_enter Try.func16, Try.ntmps16
    go_wp2
    go_loopg [3] k (fun kq v3 w' => ∃ (x3_1 : Int), v3 = .int .i64 x3_1 ∧ Aside0 (bonsairef13_May.l0 kq l0 x3_1 = some r) ∧ Aside0 (kq ≤ k) ∧ Aside0 (Below w.heap.size w w'))
    case atStart => exact ⟨(0), (by first | rfl | (simp; done) | (simp [*]; done)), H', ⟨Nat.le_refl _⟩, ⟨by repeat (first | (with_reducible first | exact HB.out | apply below_alloc | apply pw_below_drewN | apply below_drew1) | exact HB.out)⟩⟩
    case round =>
      clear H'
      try clear c1
      try clear c2
      try clear c2b0
      try clear c2b1
      try clear p2
      obtain ⟨x3_1, rfl, HA, HK1, HB⟩ := hrel
      cases gk with
      | zero => exact absurd HA.out (by simp [bonsairef13_May.l0])
      | succ k1 =>
        have H := HA.out
        clear HA
        simp only [bonsairef13_May.l0] at H
        by_cases c3 : x3_1 < (l0.length : Int)
        · rw [if_pos c3] at H
          have c3b0 : decide (x3_1 < (l0.length : Int)) = true := decide_eq_true c3
          clear c3
          by_cases c4 : 0 ≤ x3_1
          · rw [if_pos c4] at H
            have c4b0 : decide (0 ≤ x3_1) = true := decide_eq_true c4
            clear c4
            replace H := Option.bind_eq_some_iff.mp H
            obtain ⟨t270, A50, H⟩ := H
            replace H : (if t270 = true then (if x3_1 > 0 then (if 0 ≤ (wrap64 (x3_1 - 1)) then (if (wrap64 (x3_1 - 1)) < (l0.length : Int) then ((bonsairef02_Before.f ((rd_T30 l0 (wrap64 (x3_1 - 1))).f0.f0) ((rd_T30 l0 (wrap64 (x3_1 - 1))).f0.f1) ((rd_T30 l0 x3_1).f0.f0) ((rd_T30 l0 x3_1).f0.f1)).bind fun t273 => (if t273 = true then (bonsairef13_May.l0 k1 l0 (wrap64 (x3_1 + 1))) else (some false))) else (none)) else (none)) else (bonsairef13_May.l0 k1 l0 (wrap64 (x3_1 + 1)))) else (some false)) = some r := H
            have A5 := Aside0.mk A50
            clear A50
            by_cases c6 : t270 = true
            · subst c6
              have H1 : (if x3_1 > 0 then (if 0 ≤ (wrap64 (x3_1 - 1)) then (if (wrap64 (x3_1 - 1)) < (l0.length : Int) then ((bonsairef02_Before.f ((rd_T30 l0 (wrap64 (x3_1 - 1))).f0.f0) ((rd_T30 l0 (wrap64 (x3_1 - 1))).f0.f1) ((rd_T30 l0 x3_1).f0.f0) ((rd_T30 l0 x3_1).f0.f1)).bind fun t273 => (if t273 = true then (bonsairef13_May.l0 k1 l0 (wrap64 (x3_1 + 1))) else (some false))) else (none)) else (none)) else (bonsairef13_May.l0 k1 l0 (wrap64 (x3_1 + 1)))) = some r := by rw [if_pos rfl] at H; exact H
              clear H
              have H := H1
              clear H1
              by_cases c7 : x3_1 > 0
              · rw [if_pos c7] at H
                have c7b0 : decide (0 < x3_1) = true := decide_eq_true c7
                clear c7
                obtain ⟨ji8, hji8⟩ : ∃ j_ : Int, (wrap64 (x3_1 - 1)) = j_ := ⟨_, rfl⟩
                replace H : (if 0 ≤ (ji8) then (if (ji8) < (l0.length : Int) then ((bonsairef02_Before.f ((rd_T30 l0 (ji8)).f0.f0) ((rd_T30 l0 (ji8)).f0.f1) ((rd_T30 l0 x3_1).f0.f0) ((rd_T30 l0 x3_1).f0.f1)).bind fun t273 => (if t273 = true then (bonsairef13_May.l0 k1 l0 (wrap64 (x3_1 + 1))) else (some false))) else (none)) else (none)) = some r := by first | (rw [hji8] at H; exact H) | (simp only [hji8] at H ⊢; exact H)
                (try rw [hji8] at A5)
                have hji8w : (IntKind.i64.wrap (x3_1 - 1)) = ji8 := (i64_w _).trans hji8
                by_cases c9 : 0 ≤ (ji8)
                · rw [if_pos c9] at H
                  have c9b0 : decide (0 ≤ (ji8)) = true := decide_eq_true c9
                  clear c9
                  by_cases c10 : (ji8) < (l0.length : Int)
                  · rw [if_pos c10] at H
                    have c10b0 : decide ((ji8) < (l0.length : Int)) = true := decide_eq_true c10
                    clear c10
                    replace H := Option.bind_eq_some_iff.mp H
                    obtain ⟨t273, A110, H⟩ := H
                    replace H : (if t273 = true then (bonsairef13_May.l0 k1 l0 (wrap64 (x3_1 + 1))) else (some false)) = some r := H
                    have A11 := Aside0.mk A110
                    clear A110
                    by_cases c12 : t273 = true
                    · subst c12
                      have H1 : (bonsairef13_May.l0 k1 l0 (wrap64 (x3_1 + 1))) = some r := by rw [if_pos rfl] at H; exact H
                      clear H
                      have H := H1
                      clear H1
                      have H' := Aside0.mk H
                      clear H
                      try go_wp2
                      have n0_ := Aside0.mk (below_drew1 HB.out)
                      clear HB
                      have HB := n0_
                      clear n0_
                      have p269 : 0 ≤ (x3_1 : Int) := of_decide_eq_true (by first | (with_reducible assumption) | assumption)
                      have q269 : x3_1 < (l0.length : Int) := of_decide_eq_true (by first | (with_reducible assumption) | assumption)
                      obtain ⟨ad269, bv269_5, e269, hx269_0, hx269_1, hx269_2, hx269_3, hx269_4, hx269_5, bq269_5⟩ := at_T30 HR0.out x3_1 p269 q269
                      have hw269_5 := hx269_5
                      have hw269_4 := hx269_4
                      have hw269_3 := hx269_3
                      have hw269_2 := hx269_2
                      have hw269_1 := hx269_1
                      have hw269_0 := hx269_0
                      cases e269
                      replace hx269_0 := (HB.out.cell (World.block_lt_of_cell? w _ hx269_0)).trans hx269_0
                      replace hx269_1 := (HB.out.cell (World.block_lt_of_cell? w _ hx269_1)).trans hx269_1
                      replace hx269_2 := (HB.out.cell (World.block_lt_of_cell? w _ hx269_2)).trans hx269_2
                      replace hx269_3 := (HB.out.cell (World.block_lt_of_cell? w _ hx269_3)).trans hx269_3
                      replace hx269_4 := (HB.out.cell (World.block_lt_of_cell? w _ hx269_4)).trans hx269_4
                      replace hx269_5 := (HB.out.cell (World.block_lt_of_cell? w _ hx269_5)).trans hx269_5
                      replace p269 := eq_true p269
                      replace q269 := eq_true q269
                      have p271 : 0 ≤ ((ji8) : Int) := of_decide_eq_true (by first | (with_reducible assumption) | assumption)
                      have q271 : (ji8) < (l0.length : Int) := of_decide_eq_true (by first | (with_reducible assumption) | assumption)
                      obtain ⟨ad271, bv271_5, e271, hx271_0, hx271_1, hx271_2, hx271_3, hx271_4, hx271_5, bq271_5⟩ := at_T30 HR0.out (ji8) p271 q271
                      have hw271_5 := hx271_5
                      have hw271_4 := hx271_4
                      have hw271_3 := hx271_3
                      have hw271_2 := hx271_2
                      have hw271_1 := hx271_1
                      have hw271_0 := hx271_0
                      obtain rfl : ad269 = ad271 := (by injection e271)
                      replace hx271_0 := (HB.out.cell (World.block_lt_of_cell? w _ hx271_0)).trans hx271_0
                      replace hx271_1 := (HB.out.cell (World.block_lt_of_cell? w _ hx271_1)).trans hx271_1
                      replace hx271_2 := (HB.out.cell (World.block_lt_of_cell? w _ hx271_2)).trans hx271_2
                      replace hx271_3 := (HB.out.cell (World.block_lt_of_cell? w _ hx271_3)).trans hx271_3
                      replace hx271_4 := (HB.out.cell (World.block_lt_of_cell? w _ hx271_4)).trans hx271_4
                      replace hx271_5 := (HB.out.cell (World.block_lt_of_cell? w _ hx271_5)).trans hx271_5
                      replace p271 := eq_true p271
                      replace q271 := eq_true q271
                      have p272 : 0 ≤ (x3_1 : Int) := of_decide_eq_true (by first | (with_reducible assumption) | assumption)
                      have q272 : x3_1 < (l0.length : Int) := of_decide_eq_true (by first | (with_reducible assumption) | assumption)
                      obtain ⟨ad272, bv272_5, e272, hx272_0, hx272_1, hx272_2, hx272_3, hx272_4, hx272_5, bq272_5⟩ := at_T30 HR0.out x3_1 p272 q272
                      have hw272_5 := hx272_5
                      have hw272_4 := hx272_4
                      have hw272_3 := hx272_3
                      have hw272_2 := hx272_2
                      have hw272_1 := hx272_1
                      have hw272_0 := hx272_0
                      obtain rfl : ad269 = ad272 := (by injection e272)
                      replace hx272_0 := (HB.out.cell (World.block_lt_of_cell? w _ hx272_0)).trans hx272_0
                      replace hx272_1 := (HB.out.cell (World.block_lt_of_cell? w _ hx272_1)).trans hx272_1
                      replace hx272_2 := (HB.out.cell (World.block_lt_of_cell? w _ hx272_2)).trans hx272_2
                      replace hx272_3 := (HB.out.cell (World.block_lt_of_cell? w _ hx272_3)).trans hx272_3
                      replace hx272_4 := (HB.out.cell (World.block_lt_of_cell? w _ hx272_4)).trans hx272_4
                      replace hx272_5 := (HB.out.cell (World.block_lt_of_cell? w _ hx272_5)).trans hx272_5
                      replace p272 := eq_true p272
                      replace q272 := eq_true q272
                      obtain rfl : bv269_5 = bv272_5 := (Value.float.inj (Option.some.inj (hx269_5.symm.trans hx272_5))).2
                      refine start_ (n := 25) (S := fun w' => w'.cell? (ad269.add ((x3_1).toNat * 6)) = some (.int .i64 ((rd_T30 l0 x3_1).f0.f0)) ∧ w'.cell? ⟨(ad269.add ((x3_1).toNat * 6)).block, (ad269.add ((x3_1).toNat * 6)).off + 1, none⟩ = some (.int .i64 ((rd_T30 l0 x3_1).f0.f1)) ∧ w'.cell? ⟨(ad269.add ((x3_1).toNat * 6)).block, (ad269.add ((x3_1).toNat * 6)).off + 2, none⟩ = some (.int .i64 ((rd_T30 l0 x3_1).f1)) ∧ w'.cell? ⟨(ad269.add ((x3_1).toNat * 6)).block, (ad269.add ((x3_1).toNat * 6)).off + 3, none⟩ = some (.int .i64 ((rd_T30 l0 x3_1).f2)) ∧ w'.cell? ⟨(ad269.add ((x3_1).toNat * 6)).block, (ad269.add ((x3_1).toNat * 6)).off + 4, none⟩ = some (.string ((rd_T30 l0 x3_1).f3)) ∧ w'.cell? ⟨(ad269.add ((x3_1).toNat * 6)).block, (ad269.add ((x3_1).toNat * 6)).off + 5, none⟩ = some (.float .f64 bv269_5) ∧ w'.cell? (ad269.add (((ji8)).toNat * 6)) = some (.int .i64 ((rd_T30 l0 (ji8)).f0.f0)) ∧ w'.cell? ⟨(ad269.add (((ji8)).toNat * 6)).block, (ad269.add (((ji8)).toNat * 6)).off + 1, none⟩ = some (.int .i64 ((rd_T30 l0 (ji8)).f0.f1)) ∧ w'.cell? ⟨(ad269.add (((ji8)).toNat * 6)).block, (ad269.add (((ji8)).toNat * 6)).off + 2, none⟩ = some (.int .i64 ((rd_T30 l0 (ji8)).f1)) ∧ w'.cell? ⟨(ad269.add (((ji8)).toNat * 6)).block, (ad269.add (((ji8)).toNat * 6)).off + 3, none⟩ = some (.int .i64 ((rd_T30 l0 (ji8)).f2)) ∧ w'.cell? ⟨(ad269.add (((ji8)).toNat * 6)).block, (ad269.add (((ji8)).toNat * 6)).off + 4, none⟩ = some (.string ((rd_T30 l0 (ji8)).f3)) ∧ w'.cell? ⟨(ad269.add (((ji8)).toNat * 6)).block, (ad269.add (((ji8)).toNat * 6)).off + 5, none⟩ = some (.float .f64 bv271_5) ∧ w'.cell? (ad269.add ((x3_1).toNat * 6)) = some (.int .i64 ((rd_T30 l0 x3_1).f0.f0)) ∧ w'.cell? ⟨(ad269.add ((x3_1).toNat * 6)).block, (ad269.add ((x3_1).toNat * 6)).off + 1, none⟩ = some (.int .i64 ((rd_T30 l0 x3_1).f0.f1)) ∧ w'.cell? ⟨(ad269.add ((x3_1).toNat * 6)).block, (ad269.add ((x3_1).toNat * 6)).off + 2, none⟩ = some (.int .i64 ((rd_T30 l0 x3_1).f1)) ∧ w'.cell? ⟨(ad269.add ((x3_1).toNat * 6)).block, (ad269.add ((x3_1).toNat * 6)).off + 3, none⟩ = some (.int .i64 ((rd_T30 l0 x3_1).f2)) ∧ w'.cell? ⟨(ad269.add ((x3_1).toNat * 6)).block, (ad269.add ((x3_1).toNat * 6)).off + 4, none⟩ = some (.string ((rd_T30 l0 x3_1).f3)) ∧ w'.cell? ⟨(ad269.add ((x3_1).toNat * 6)).block, (ad269.add ((x3_1).toNat * 6)).off + 5, none⟩ = some (.float .f64 bv269_5)) (ds := []) #[false, false, false, false, false, false, false, false, false, false, false, false, false, false, false, false, false, false, false, false, false, false, false, false, false] (by kernel_rfl) rfl rfl ⟨((HB.out.cell (World.block_lt_of_cell? w _ hw269_0)).trans hw269_0), ((HB.out.cell (World.block_lt_of_cell? w _ hw269_1)).trans hw269_1), ((HB.out.cell (World.block_lt_of_cell? w _ hw269_2)).trans hw269_2), ((HB.out.cell (World.block_lt_of_cell? w _ hw269_3)).trans hw269_3), ((HB.out.cell (World.block_lt_of_cell? w _ hw269_4)).trans hw269_4), ((HB.out.cell (World.block_lt_of_cell? w _ hw269_5)).trans hw269_5), ((HB.out.cell (World.block_lt_of_cell? w _ hw271_0)).trans hw271_0), ((HB.out.cell (World.block_lt_of_cell? w _ hw271_1)).trans hw271_1), ((HB.out.cell (World.block_lt_of_cell? w _ hw271_2)).trans hw271_2), ((HB.out.cell (World.block_lt_of_cell? w _ hw271_3)).trans hw271_3), ((HB.out.cell (World.block_lt_of_cell? w _ hw271_4)).trans hw271_4), ((HB.out.cell (World.block_lt_of_cell? w _ hw271_5)).trans hw271_5), ((HB.out.cell (World.block_lt_of_cell? w _ hw272_0)).trans hw272_0), ((HB.out.cell (World.block_lt_of_cell? w _ hw272_1)).trans hw272_1), ((HB.out.cell (World.block_lt_of_cell? w _ hw272_2)).trans hw272_2), ((HB.out.cell (World.block_lt_of_cell? w _ hw272_3)).trans hw272_3), ((HB.out.cell (World.block_lt_of_cell? w _ hw272_4)).trans hw272_4), ((HB.out.cell (World.block_lt_of_cell? w _ hw272_5)).trans hw272_5)⟩ (fun hHeld => ?_); refine with_tabW bonsairef13_May.tab6 bonsairef13_May.bits6 (fun HT_ HW_ => ?_)
                      generalize wr.drew = w13 at HB hx269_0 hx269_1 hx269_2 hx269_3 hx269_4 hx269_5 hx271_0 hx271_1 hx271_2 hx271_3 hx271_4 hx271_5 hx272_0 hx272_1 hx272_2 hx272_3 hx272_4 hx272_5 hHeld ⊢
                      refine pure_ (i := 0) (N := some 13) (v := ?_) (a' := ?_) #[true, false, false, false, false, false, false, false, false, false, false, false, false, false, false, false, false, false, false, false, false, false, false, false, false] rfl rfl (any_of HT_.out (by kernel_rfl)) (fun _ _ _ h => h) (Or.inl ⟨by rfl, ?_⟩) ?_ ?_
                      rotate_left
                      · intro w'
                        go_simp
                        with_reducible rfl
                      rotate_left
                      · simp only [Act.put, List.setIfInBounds_toArray, List.set_cons_zero, List.set_cons_succ, i64_w, i32_w]
                        rfl
                      refine pure_ (i := 1) (N := some 14) (v := ?_) (a' := ?_) #[true, true, false, false, false, false, false, false, false, false, false, false, false, false, false, false, false, false, false, false, false, false, false, false, false] rfl rfl (any_of HT_.out (by kernel_rfl)) (fun _ _ _ h => h) (Or.inl ⟨by rfl, ?_⟩) ?_ ?_
                      rotate_left
                      · intro w'
                        go_simp
                        with_reducible rfl
                      rotate_left
                      · simp only [Act.put, List.setIfInBounds_toArray, List.set_cons_zero, List.set_cons_succ, i64_w, i32_w]
                        rfl
                      refine pure_ (i := 2) (N := some 15) (v := ?_) (a' := ?_) #[true, true, true, false, false, false, false, false, false, false, false, false, false, false, false, false, false, false, false, false, false, false, false, false, false] rfl rfl (any_of HT_.out (by kernel_rfl)) (fun _ _ _ h => h) (Or.inl ⟨by rfl, ?_⟩) ?_ ?_
                      rotate_left
                      · intro w'
                        go_simp
                        with_reducible rfl
                      rotate_left
                      · simp only [Act.put, List.setIfInBounds_toArray, List.set_cons_zero, List.set_cons_succ, i64_w, i32_w]
                        rfl
                      refine take_ (i := 3) (N := some 16) (v := ?_) (a' := ?_) #[true, true, true, true, false, false, false, false, false, false, false, false, false, false, false, false, false, false, false, false, false, false, false, false, false] rfl rfl (take_ofW HT_.out HW_.out (by kernel_rfl)) (fun _ _ _ h => h) (Or.inl ⟨by rfl, ?_⟩) hHeld ?_ ?_
                      rotate_left
                      · rintro w' ⟨s0, s1, s2, s3, s4, s5, s6, s7, s8, s9, s10, s11, s12, s13, s14, s15, s16, s17⟩
                        go_simp
                        with_reducible rfl
                      rotate_left
                      · simp only [Act.put, List.setIfInBounds_toArray, List.set_cons_zero, List.set_cons_succ, i64_w, i32_w]
                        rfl
                      refine one_ (i := 4) (N := some 17) #[true, true, true, true, true, false, false, false, false, false, false, false, false, false, false, false, false, false, false, false, false, false, false, false, false] rfl rfl (one_of HT_.out (by kernel_rfl)) (by decide) (fun K hK => ?_)
                      refine goes_ Try.func41 (by kernel_rfl) rfl #[.agg #[.int .i64 ((rd_T30 l0 x3_1).f0.f0), .int .i64 ((rd_T30 l0 x3_1).f0.f1), .int .i64 ((rd_T30 l0 x3_1).f1), .int .i64 ((rd_T30 l0 x3_1).f2), .string ((rd_T30 l0 x3_1).f3), .float .f64 bv269_5]] (by rfl) rfl rfl (by (try simp only [List.map_toArray, List.map_cons, List.map_nil]); first | done | rfl | (simp only [List.length_drop, List.length_take]; rfl)) ?_
                      with_reducible refine (bonsairef13_One.calls k1 ((rd_T30 l0 x3_1).f0.f0) ((rd_T30 l0 x3_1).f0.f1) ((rd_T30 l0 x3_1).f1) ((rd_T30 l0 x3_1).f2) ((rd_T30 l0 x3_1).f3) _ ((rd_T30 l0 x3_1).f4) true _ ?side1 A5.out).mono ?_
                      (case side1 => exact (by first | assumption | exact FB_lit _ _ rfl | exact FB_int _ | simpa using (by assumption)))
                      rintro e w14 ⟨rfl, hb⟩
                      refine ⟨_, rfl, ?_⟩
                      have n0_ := Aside0.mk (below_step (by repeat (first | (with_reducible first | exact HB.out | apply below_alloc | apply pw_below_drewN | apply below_drew1) | exact HB.out)) hb)
                      clear HB
                      have HB := n0_
                      clear n0_
                      (try clear hb)
                      (try clear hb2)
                      (try clear hk)
                      (try clear hi)
                      refine hK.out _ _ ⟨((HB.out.cell (World.block_lt_of_cell? w _ hw269_0)).trans hw269_0), ((HB.out.cell (World.block_lt_of_cell? w _ hw269_1)).trans hw269_1), ((HB.out.cell (World.block_lt_of_cell? w _ hw269_2)).trans hw269_2), ((HB.out.cell (World.block_lt_of_cell? w _ hw269_3)).trans hw269_3), ((HB.out.cell (World.block_lt_of_cell? w _ hw269_4)).trans hw269_4), ((HB.out.cell (World.block_lt_of_cell? w _ hw269_5)).trans hw269_5), ((HB.out.cell (World.block_lt_of_cell? w _ hw271_0)).trans hw271_0), ((HB.out.cell (World.block_lt_of_cell? w _ hw271_1)).trans hw271_1), ((HB.out.cell (World.block_lt_of_cell? w _ hw271_2)).trans hw271_2), ((HB.out.cell (World.block_lt_of_cell? w _ hw271_3)).trans hw271_3), ((HB.out.cell (World.block_lt_of_cell? w _ hw271_4)).trans hw271_4), ((HB.out.cell (World.block_lt_of_cell? w _ hw271_5)).trans hw271_5), ((HB.out.cell (World.block_lt_of_cell? w _ hw272_0)).trans hw272_0), ((HB.out.cell (World.block_lt_of_cell? w _ hw272_1)).trans hw272_1), ((HB.out.cell (World.block_lt_of_cell? w _ hw272_2)).trans hw272_2), ((HB.out.cell (World.block_lt_of_cell? w _ hw272_3)).trans hw272_3), ((HB.out.cell (World.block_lt_of_cell? w _ hw272_4)).trans hw272_4), ((HB.out.cell (World.block_lt_of_cell? w _ hw272_5)).trans hw272_5)⟩ (fun hHeld => ?_)
                      clear hK K
                      refine norm_ (a' := ?_) ?_ ?_
                      rotate_left
                      · show Act.put _ (some 17) _ = _
                        simp only [Act.put, List.setIfInBounds_toArray, List.set_cons_zero, List.set_cons_succ, i64_w, i32_w]
                        rfl
                      refine pure_ (i := 5) (N := some 18) (v := ?_) (a' := ?_) #[true, true, true, true, true, true, false, false, false, false, false, false, false, false, false, false, false, false, false, false, false, false, false, false, false] rfl rfl (any_of HT_.out (by kernel_rfl)) (fun _ _ _ h => h) (Or.inl ⟨by rfl, ?_⟩) ?_ ?_
                      rotate_left
                      · intro w'
                        go_simp
                        with_reducible rfl
                      rotate_left
                      · simp only [Act.put, List.setIfInBounds_toArray, List.set_cons_zero, List.set_cons_succ, i64_w, i32_w]
                        rfl
                      refine pure_ (i := 6) (N := some 19) (v := ?_) (a' := ?_) #[true, true, true, true, true, true, true, false, false, false, false, false, false, false, false, false, false, false, false, false, false, false, false, false, false] rfl rfl (any_of HT_.out (by kernel_rfl)) (fun _ _ _ h => h) (Or.inl ⟨by rfl, ?_⟩) ?_ ?_
                      rotate_left
                      · intro w'
                        go_simp
                        with_reducible rfl
                      rotate_left
                      · simp only [Act.put, List.setIfInBounds_toArray, List.set_cons_zero, List.set_cons_succ, i64_w, i32_w]
                        rfl
                      refine pure_ (i := 7) (N := some 20) (v := ?_) (a' := ?_) #[true, true, true, true, true, true, true, true, false, false, false, false, false, false, false, false, false, false, false, false, false, false, false, false, false] rfl rfl (any_of HT_.out (by kernel_rfl)) (fun _ _ _ h => h) (Or.inl ⟨by rfl, ?_⟩) ?_ ?_
                      rotate_left
                      · intro w'
                        go_simp
                        with_reducible rfl
                      rotate_left
                      · simp only [Act.put, List.setIfInBounds_toArray, List.set_cons_zero, List.set_cons_succ, i64_w, i32_w]
                        rfl
                      refine pure_ (i := 8) (N := some 21) (v := ?_) (a' := ?_) #[true, true, true, true, true, true, true, true, true, false, false, false, false, false, false, false, false, false, false, false, false, false, false, false, false] rfl rfl (any_of HT_.out (by kernel_rfl)) (fun _ _ _ h => h) (Or.inl ⟨by rfl, ?_⟩) ?_ ?_
                      rotate_left
                      · intro w'
                        go_simp
                        with_reducible rfl
                      rotate_left
                      · simp only [Act.put, List.setIfInBounds_toArray, List.set_cons_zero, List.set_cons_succ, i64_w, i32_w]
                        rfl
                      refine pure_ (i := 9) (N := some 22) (v := ?_) (a' := ?_) #[true, true, true, true, true, true, true, true, true, true, false, false, false, false, false, false, false, false, false, false, false, false, false, false, false] rfl rfl (any_of HT_.out (by kernel_rfl)) (fun _ _ _ h => h) (Or.inl ⟨by rfl, ?_⟩) ?_ ?_
                      rotate_left
                      · intro w'
                        go_simp
                        with_reducible rfl
                      rotate_left
                      · simp only [Act.put, List.setIfInBounds_toArray, List.set_cons_zero, List.set_cons_succ, i64_w, i32_w]
                        rfl
                      refine pure_ (i := 10) (N := some 23) (v := ?_) (a' := ?_) #[true, true, true, true, true, true, true, true, true, true, true, false, false, false, false, false, false, false, false, false, false, false, false, false, false] rfl rfl (any_of HT_.out (by kernel_rfl)) (fun _ _ _ h => h) (Or.inl ⟨by rfl, ?_⟩) ?_ ?_
                      rotate_left
                      · intro w'
                        go_simp
                        with_reducible rfl
                      rotate_left
                      · simp only [Act.put, List.setIfInBounds_toArray, List.set_cons_zero, List.set_cons_succ, i64_w, i32_w]
                        rfl
                      refine pure_ (i := 11) (N := some 24) (v := ?_) (a' := ?_) #[true, true, true, true, true, true, true, true, true, true, true, true, false, false, false, false, false, false, false, false, false, false, false, false, false] rfl rfl (any_of HT_.out (by kernel_rfl)) (fun _ _ _ h => h) (Or.inl ⟨by rfl, ?_⟩) ?_ ?_
                      rotate_left
                      · intro w'
                        go_simp
                        with_reducible rfl
                      rotate_left
                      · simp only [Act.put, List.setIfInBounds_toArray, List.set_cons_zero, List.set_cons_succ, i64_w, i32_w]
                        rfl
                      refine pure_ (i := 12) (N := some 25) (v := ?_) (a' := ?_) #[true, true, true, true, true, true, true, true, true, true, true, true, true, false, false, false, false, false, false, false, false, false, false, false, false] rfl rfl (any_of HT_.out (by kernel_rfl)) (fun _ _ _ h => h) (Or.inl ⟨by rfl, ?_⟩) ?_ ?_
                      rotate_left
                      · intro w'
                        go_simp
                        with_reducible rfl
                      rotate_left
                      · simp only [Act.put, List.setIfInBounds_toArray, List.set_cons_zero, List.set_cons_succ, i64_w, i32_w]
                        rfl
                      refine pure_ (i := 13) (N := some 26) (v := ?_) (a' := ?_) #[true, true, true, true, true, true, true, true, true, true, true, true, true, true, false, false, false, false, false, false, false, false, false, false, false] rfl rfl (any_of HT_.out (by kernel_rfl)) (fun _ _ _ h => h) (Or.inl ⟨by rfl, ?_⟩) ?_ ?_
                      rotate_left
                      · intro w'
                        go_simp
                        with_reducible rfl
                      rotate_left
                      · simp only [Act.put, List.setIfInBounds_toArray, List.set_cons_zero, List.set_cons_succ, i64_w, i32_w]
                        rfl
                      refine pure_ (i := 14) (N := some 27) (v := ?_) (a' := ?_) #[true, true, true, true, true, true, true, true, true, true, true, true, true, true, true, false, false, false, false, false, false, false, false, false, false] rfl rfl (any_of HT_.out (by kernel_rfl)) (fun _ _ _ h => h) (Or.inl ⟨by rfl, ?_⟩) ?_ ?_
                      rotate_left
                      · intro w'
                        go_simp
                        with_reducible rfl
                      rotate_left
                      · simp only [Act.put, List.setIfInBounds_toArray, List.set_cons_zero, List.set_cons_succ, i64_w, i32_w]
                        rfl
                      refine pure_ (i := 16) (N := some 29) (v := ?_) (a' := ?_) #[true, true, true, true, true, true, true, true, true, true, true, true, true, true, true, false, true, false, false, false, false, false, false, false, false] rfl rfl (any_of HT_.out (by kernel_rfl)) (fun _ _ _ h => h) (Or.inl ⟨by rfl, ?_⟩) ?_ ?_
                      rotate_left
                      · intro w'
                        go_simp
                        with_reducible rfl
                      rotate_left
                      · simp only [Act.put, List.setIfInBounds_toArray, List.set_cons_zero, List.set_cons_succ, i64_w, i32_w]
                        rfl
                      refine pure_ (i := 17) (N := some 30) (v := ?_) (a' := ?_) #[true, true, true, true, true, true, true, true, true, true, true, true, true, true, true, false, true, true, false, false, false, false, false, false, false] rfl rfl (any_of HT_.out (by kernel_rfl)) (fun _ _ _ h => h) (Or.inl ⟨by rfl, ?_⟩) ?_ ?_
                      rotate_left
                      · intro w'
                        go_simp
                        with_reducible rfl
                      rotate_left
                      · simp only [Act.put, List.setIfInBounds_toArray, List.set_cons_zero, List.set_cons_succ, i64_w, i32_w]
                        rfl
                      refine pure_ (i := 18) (N := some 31) (v := ?_) (a' := ?_) #[true, true, true, true, true, true, true, true, true, true, true, true, true, true, true, false, true, true, true, false, false, false, false, false, false] rfl rfl (any_of HT_.out (by kernel_rfl)) (fun _ _ _ h => h) (Or.inl ⟨by rfl, ?_⟩) ?_ ?_
                      rotate_left
                      · intro w'
                        go_simp
                        with_reducible rfl
                      rotate_left
                      · simp only [Act.put, List.setIfInBounds_toArray, List.set_cons_zero, List.set_cons_succ, i64_w, i32_w]
                        rfl
                      refine pure_ (i := 19) (N := some 32) (v := ?_) (a' := ?_) #[true, true, true, true, true, true, true, true, true, true, true, true, true, true, true, false, true, true, true, true, false, false, false, false, false] rfl rfl (any_of HT_.out (by kernel_rfl)) (fun _ _ _ h => h) (Or.inl ⟨by rfl, ?_⟩) ?_ ?_
                      rotate_left
                      · intro w'
                        go_simp
                        with_reducible rfl
                      rotate_left
                      · simp only [Act.put, List.setIfInBounds_toArray, List.set_cons_zero, List.set_cons_succ, i64_w, i32_w]
                        rfl
                      refine take_ (i := 15) (N := some 28) (v := ?_) (a' := ?_) #[true, true, true, true, true, true, true, true, true, true, true, true, true, true, true, true, true, true, true, true, false, false, false, false, false] rfl rfl (take_ofW HT_.out HW_.out (by kernel_rfl)) (fun _ _ _ h => h) (Or.inl ⟨by rfl, ?_⟩) hHeld ?_ ?_
                      rotate_left
                      · rintro w' ⟨s0, s1, s2, s3, s4, s5, s6, s7, s8, s9, s10, s11, s12, s13, s14, s15, s16, s17⟩
                        go_simp
                        with_reducible rfl
                      rotate_left
                      · simp only [Act.put, List.setIfInBounds_toArray, List.set_cons_zero, List.set_cons_succ, i64_w, i32_w]
                        rfl
                      refine take_ (i := 20) (N := some 33) (v := ?_) (a' := ?_) #[true, true, true, true, true, true, true, true, true, true, true, true, true, true, true, true, true, true, true, true, true, false, false, false, false] rfl rfl (take_ofW HT_.out HW_.out (by kernel_rfl)) (fun _ _ _ h => h) (Or.inl ⟨by rfl, ?_⟩) hHeld ?_ ?_
                      rotate_left
                      · rintro w' ⟨s0, s1, s2, s3, s4, s5, s6, s7, s8, s9, s10, s11, s12, s13, s14, s15, s16, s17⟩
                        go_simp
                        with_reducible rfl
                      rotate_left
                      · simp only [Act.put, List.setIfInBounds_toArray, List.set_cons_zero, List.set_cons_succ, i64_w, i32_w]
                        rfl
                      refine one_ (i := 21) (N := some 34) #[true, true, true, true, true, true, true, true, true, true, true, true, true, true, true, true, true, true, true, true, true, true, false, false, false] rfl rfl (one_of HT_.out (by kernel_rfl)) (by decide) (fun K hK => ?_)
                      refine goes_ Try.func42 (by kernel_rfl) rfl #[.agg #[.int .i64 ((rd_T30 l0 (ji8)).f0.f0), .int .i64 ((rd_T30 l0 (ji8)).f0.f1)], .agg #[.int .i64 ((rd_T30 l0 x3_1).f0.f0), .int .i64 ((rd_T30 l0 x3_1).f0.f1)]] (by rfl) rfl rfl (by (try simp only [List.map_toArray, List.map_cons, List.map_nil]); first | done | (simp only [hji8]; rfl) | rfl | (simp only [List.length_drop, List.length_take]; rfl)) ?_
                      with_reducible refine (bonsairef02_Before.calls ((rd_T30 l0 (ji8)).f0.f0) ((rd_T30 l0 (ji8)).f0.f1) ((rd_T30 l0 x3_1).f0.f0) ((rd_T30 l0 x3_1).f0.f1) true _ A11.out).mono ?_
                      rintro e w15 ⟨rfl, hb⟩
                      refine ⟨_, rfl, ?_⟩
                      have n0_ := Aside0.mk (below_step (by repeat (first | (with_reducible first | exact HB.out | apply below_alloc | apply pw_below_drewN | apply below_drew1) | exact HB.out)) hb)
                      clear HB
                      have HB := n0_
                      clear n0_
                      (try clear hb)
                      (try clear hb2)
                      (try clear hk)
                      (try clear hi)
                      refine hK.out _ _ ⟨((HB.out.cell (World.block_lt_of_cell? w _ hw269_0)).trans hw269_0), ((HB.out.cell (World.block_lt_of_cell? w _ hw269_1)).trans hw269_1), ((HB.out.cell (World.block_lt_of_cell? w _ hw269_2)).trans hw269_2), ((HB.out.cell (World.block_lt_of_cell? w _ hw269_3)).trans hw269_3), ((HB.out.cell (World.block_lt_of_cell? w _ hw269_4)).trans hw269_4), ((HB.out.cell (World.block_lt_of_cell? w _ hw269_5)).trans hw269_5), ((HB.out.cell (World.block_lt_of_cell? w _ hw271_0)).trans hw271_0), ((HB.out.cell (World.block_lt_of_cell? w _ hw271_1)).trans hw271_1), ((HB.out.cell (World.block_lt_of_cell? w _ hw271_2)).trans hw271_2), ((HB.out.cell (World.block_lt_of_cell? w _ hw271_3)).trans hw271_3), ((HB.out.cell (World.block_lt_of_cell? w _ hw271_4)).trans hw271_4), ((HB.out.cell (World.block_lt_of_cell? w _ hw271_5)).trans hw271_5), ((HB.out.cell (World.block_lt_of_cell? w _ hw272_0)).trans hw272_0), ((HB.out.cell (World.block_lt_of_cell? w _ hw272_1)).trans hw272_1), ((HB.out.cell (World.block_lt_of_cell? w _ hw272_2)).trans hw272_2), ((HB.out.cell (World.block_lt_of_cell? w _ hw272_3)).trans hw272_3), ((HB.out.cell (World.block_lt_of_cell? w _ hw272_4)).trans hw272_4), ((HB.out.cell (World.block_lt_of_cell? w _ hw272_5)).trans hw272_5)⟩ (fun hHeld => ?_)
                      clear hK K
                      refine norm_ (a' := ?_) ?_ ?_
                      rotate_left
                      · show Act.put _ (some 34) _ = _
                        simp only [Act.put, List.setIfInBounds_toArray, List.set_cons_zero, List.set_cons_succ, i64_w, i32_w]
                        rfl
                      refine pure_ (i := 22) (N := some 35) (v := ?_) (a' := ?_) #[true, true, true, true, true, true, true, true, true, true, true, true, true, true, true, true, true, true, true, true, true, true, true, false, false] rfl rfl (any_of HT_.out (by kernel_rfl)) (fun _ _ _ h => h) (Or.inl ⟨by rfl, ?_⟩) ?_ ?_
                      rotate_left
                      · intro w'
                        go_simp
                        with_reducible rfl
                      rotate_left
                      · simp only [Act.put, List.setIfInBounds_toArray, List.set_cons_zero, List.set_cons_succ, i64_w, i32_w]
                        rfl
                      refine pure_ (i := 23) (N := some 36) (v := ?_) (a' := ?_) #[true, true, true, true, true, true, true, true, true, true, true, true, true, true, true, true, true, true, true, true, true, true, true, true, false] rfl rfl (any_of HT_.out (by kernel_rfl)) (fun _ _ _ h => h) (Or.inl ⟨by rfl, ?_⟩) ?_ ?_
                      rotate_left
                      · intro w'
                        go_simp
                        with_reducible rfl
                      rotate_left
                      · simp only [Act.put, List.setIfInBounds_toArray, List.set_cons_zero, List.set_cons_succ, i64_w, i32_w]
                        rfl
                      refine pure_ (i := 24) (N := some 37) (v := ?_) (a' := ?_) #[true, true, true, true, true, true, true, true, true, true, true, true, true, true, true, true, true, true, true, true, true, true, true, true, true] rfl rfl (any_of HT_.out (by kernel_rfl)) (fun _ _ _ h => h) (Or.inl ⟨by rfl, ?_⟩) ?_ ?_
                      rotate_left
                      · intro w'
                        go_simp
                        with_reducible rfl
                      rotate_left
                      · simp only [Act.put, List.setIfInBounds_toArray, List.set_cons_zero, List.set_cons_succ, i64_w, i32_w]
                        rfl
                      refine done_ (done_of HT_.out (by kernel_rfl)) ?_
                      try go_wp2
                      go_roundg k1
                      case measure => have := HK1.out; omega
                      case rel => exact ⟨(wrap64 (x3_1 + 1)), (by first | rfl | (simp; done) | (simp [*]; done)), H', ⟨by have := HK1.out; omega⟩, ⟨by repeat (first | (with_reducible first | exact HB.out | apply below_alloc | apply pw_below_drewN | apply below_drew1) | exact HB.out)⟩⟩
                    · replace c12 := Bool.eq_false_iff.mpr c12
                      subst c12
                      have H1 : (some false) = some r := by rw [if_neg (show ¬ (false = true) by decide)] at H; exact H
                      clear H
                      have H := H1
                      clear H1
                      obtain rfl := Option.some.inj H
                      try go_wp2
                      have n0_ := Aside0.mk (below_drew1 HB.out)
                      clear HB
                      have HB := n0_
                      clear n0_
                      have p269 : 0 ≤ (x3_1 : Int) := of_decide_eq_true (by first | (with_reducible assumption) | assumption)
                      have q269 : x3_1 < (l0.length : Int) := of_decide_eq_true (by first | (with_reducible assumption) | assumption)
                      obtain ⟨ad269, bv269_5, e269, hx269_0, hx269_1, hx269_2, hx269_3, hx269_4, hx269_5, bq269_5⟩ := at_T30 HR0.out x3_1 p269 q269
                      have hw269_5 := hx269_5
                      have hw269_4 := hx269_4
                      have hw269_3 := hx269_3
                      have hw269_2 := hx269_2
                      have hw269_1 := hx269_1
                      have hw269_0 := hx269_0
                      cases e269
                      replace hx269_0 := (HB.out.cell (World.block_lt_of_cell? w _ hx269_0)).trans hx269_0
                      replace hx269_1 := (HB.out.cell (World.block_lt_of_cell? w _ hx269_1)).trans hx269_1
                      replace hx269_2 := (HB.out.cell (World.block_lt_of_cell? w _ hx269_2)).trans hx269_2
                      replace hx269_3 := (HB.out.cell (World.block_lt_of_cell? w _ hx269_3)).trans hx269_3
                      replace hx269_4 := (HB.out.cell (World.block_lt_of_cell? w _ hx269_4)).trans hx269_4
                      replace hx269_5 := (HB.out.cell (World.block_lt_of_cell? w _ hx269_5)).trans hx269_5
                      replace p269 := eq_true p269
                      replace q269 := eq_true q269
                      have p271 : 0 ≤ ((ji8) : Int) := of_decide_eq_true (by first | (with_reducible assumption) | assumption)
                      have q271 : (ji8) < (l0.length : Int) := of_decide_eq_true (by first | (with_reducible assumption) | assumption)
                      obtain ⟨ad271, bv271_5, e271, hx271_0, hx271_1, hx271_2, hx271_3, hx271_4, hx271_5, bq271_5⟩ := at_T30 HR0.out (ji8) p271 q271
                      have hw271_5 := hx271_5
                      have hw271_4 := hx271_4
                      have hw271_3 := hx271_3
                      have hw271_2 := hx271_2
                      have hw271_1 := hx271_1
                      have hw271_0 := hx271_0
                      obtain rfl : ad269 = ad271 := (by injection e271)
                      replace hx271_0 := (HB.out.cell (World.block_lt_of_cell? w _ hx271_0)).trans hx271_0
                      replace hx271_1 := (HB.out.cell (World.block_lt_of_cell? w _ hx271_1)).trans hx271_1
                      replace hx271_2 := (HB.out.cell (World.block_lt_of_cell? w _ hx271_2)).trans hx271_2
                      replace hx271_3 := (HB.out.cell (World.block_lt_of_cell? w _ hx271_3)).trans hx271_3
                      replace hx271_4 := (HB.out.cell (World.block_lt_of_cell? w _ hx271_4)).trans hx271_4
                      replace hx271_5 := (HB.out.cell (World.block_lt_of_cell? w _ hx271_5)).trans hx271_5
                      replace p271 := eq_true p271
                      replace q271 := eq_true q271
                      have p272 : 0 ≤ (x3_1 : Int) := of_decide_eq_true (by first | (with_reducible assumption) | assumption)
                      have q272 : x3_1 < (l0.length : Int) := of_decide_eq_true (by first | (with_reducible assumption) | assumption)
                      obtain ⟨ad272, bv272_5, e272, hx272_0, hx272_1, hx272_2, hx272_3, hx272_4, hx272_5, bq272_5⟩ := at_T30 HR0.out x3_1 p272 q272
                      have hw272_5 := hx272_5
                      have hw272_4 := hx272_4
                      have hw272_3 := hx272_3
                      have hw272_2 := hx272_2
                      have hw272_1 := hx272_1
                      have hw272_0 := hx272_0
                      obtain rfl : ad269 = ad272 := (by injection e272)
                      replace hx272_0 := (HB.out.cell (World.block_lt_of_cell? w _ hx272_0)).trans hx272_0
                      replace hx272_1 := (HB.out.cell (World.block_lt_of_cell? w _ hx272_1)).trans hx272_1
                      replace hx272_2 := (HB.out.cell (World.block_lt_of_cell? w _ hx272_2)).trans hx272_2
                      replace hx272_3 := (HB.out.cell (World.block_lt_of_cell? w _ hx272_3)).trans hx272_3
                      replace hx272_4 := (HB.out.cell (World.block_lt_of_cell? w _ hx272_4)).trans hx272_4
                      replace hx272_5 := (HB.out.cell (World.block_lt_of_cell? w _ hx272_5)).trans hx272_5
                      replace p272 := eq_true p272
                      replace q272 := eq_true q272
                      obtain rfl : bv269_5 = bv272_5 := (Value.float.inj (Option.some.inj (hx269_5.symm.trans hx272_5))).2
                      refine start_ (n := 25) (S := fun w' => w'.cell? (ad269.add ((x3_1).toNat * 6)) = some (.int .i64 ((rd_T30 l0 x3_1).f0.f0)) ∧ w'.cell? ⟨(ad269.add ((x3_1).toNat * 6)).block, (ad269.add ((x3_1).toNat * 6)).off + 1, none⟩ = some (.int .i64 ((rd_T30 l0 x3_1).f0.f1)) ∧ w'.cell? ⟨(ad269.add ((x3_1).toNat * 6)).block, (ad269.add ((x3_1).toNat * 6)).off + 2, none⟩ = some (.int .i64 ((rd_T30 l0 x3_1).f1)) ∧ w'.cell? ⟨(ad269.add ((x3_1).toNat * 6)).block, (ad269.add ((x3_1).toNat * 6)).off + 3, none⟩ = some (.int .i64 ((rd_T30 l0 x3_1).f2)) ∧ w'.cell? ⟨(ad269.add ((x3_1).toNat * 6)).block, (ad269.add ((x3_1).toNat * 6)).off + 4, none⟩ = some (.string ((rd_T30 l0 x3_1).f3)) ∧ w'.cell? ⟨(ad269.add ((x3_1).toNat * 6)).block, (ad269.add ((x3_1).toNat * 6)).off + 5, none⟩ = some (.float .f64 bv269_5) ∧ w'.cell? (ad269.add (((ji8)).toNat * 6)) = some (.int .i64 ((rd_T30 l0 (ji8)).f0.f0)) ∧ w'.cell? ⟨(ad269.add (((ji8)).toNat * 6)).block, (ad269.add (((ji8)).toNat * 6)).off + 1, none⟩ = some (.int .i64 ((rd_T30 l0 (ji8)).f0.f1)) ∧ w'.cell? ⟨(ad269.add (((ji8)).toNat * 6)).block, (ad269.add (((ji8)).toNat * 6)).off + 2, none⟩ = some (.int .i64 ((rd_T30 l0 (ji8)).f1)) ∧ w'.cell? ⟨(ad269.add (((ji8)).toNat * 6)).block, (ad269.add (((ji8)).toNat * 6)).off + 3, none⟩ = some (.int .i64 ((rd_T30 l0 (ji8)).f2)) ∧ w'.cell? ⟨(ad269.add (((ji8)).toNat * 6)).block, (ad269.add (((ji8)).toNat * 6)).off + 4, none⟩ = some (.string ((rd_T30 l0 (ji8)).f3)) ∧ w'.cell? ⟨(ad269.add (((ji8)).toNat * 6)).block, (ad269.add (((ji8)).toNat * 6)).off + 5, none⟩ = some (.float .f64 bv271_5) ∧ w'.cell? (ad269.add ((x3_1).toNat * 6)) = some (.int .i64 ((rd_T30 l0 x3_1).f0.f0)) ∧ w'.cell? ⟨(ad269.add ((x3_1).toNat * 6)).block, (ad269.add ((x3_1).toNat * 6)).off + 1, none⟩ = some (.int .i64 ((rd_T30 l0 x3_1).f0.f1)) ∧ w'.cell? ⟨(ad269.add ((x3_1).toNat * 6)).block, (ad269.add ((x3_1).toNat * 6)).off + 2, none⟩ = some (.int .i64 ((rd_T30 l0 x3_1).f1)) ∧ w'.cell? ⟨(ad269.add ((x3_1).toNat * 6)).block, (ad269.add ((x3_1).toNat * 6)).off + 3, none⟩ = some (.int .i64 ((rd_T30 l0 x3_1).f2)) ∧ w'.cell? ⟨(ad269.add ((x3_1).toNat * 6)).block, (ad269.add ((x3_1).toNat * 6)).off + 4, none⟩ = some (.string ((rd_T30 l0 x3_1).f3)) ∧ w'.cell? ⟨(ad269.add ((x3_1).toNat * 6)).block, (ad269.add ((x3_1).toNat * 6)).off + 5, none⟩ = some (.float .f64 bv269_5)) (ds := []) #[false, false, false, false, false, false, false, false, false, false, false, false, false, false, false, false, false, false, false, false, false, false, false, false, false] (by kernel_rfl) rfl rfl ⟨((HB.out.cell (World.block_lt_of_cell? w _ hw269_0)).trans hw269_0), ((HB.out.cell (World.block_lt_of_cell? w _ hw269_1)).trans hw269_1), ((HB.out.cell (World.block_lt_of_cell? w _ hw269_2)).trans hw269_2), ((HB.out.cell (World.block_lt_of_cell? w _ hw269_3)).trans hw269_3), ((HB.out.cell (World.block_lt_of_cell? w _ hw269_4)).trans hw269_4), ((HB.out.cell (World.block_lt_of_cell? w _ hw269_5)).trans hw269_5), ((HB.out.cell (World.block_lt_of_cell? w _ hw271_0)).trans hw271_0), ((HB.out.cell (World.block_lt_of_cell? w _ hw271_1)).trans hw271_1), ((HB.out.cell (World.block_lt_of_cell? w _ hw271_2)).trans hw271_2), ((HB.out.cell (World.block_lt_of_cell? w _ hw271_3)).trans hw271_3), ((HB.out.cell (World.block_lt_of_cell? w _ hw271_4)).trans hw271_4), ((HB.out.cell (World.block_lt_of_cell? w _ hw271_5)).trans hw271_5), ((HB.out.cell (World.block_lt_of_cell? w _ hw272_0)).trans hw272_0), ((HB.out.cell (World.block_lt_of_cell? w _ hw272_1)).trans hw272_1), ((HB.out.cell (World.block_lt_of_cell? w _ hw272_2)).trans hw272_2), ((HB.out.cell (World.block_lt_of_cell? w _ hw272_3)).trans hw272_3), ((HB.out.cell (World.block_lt_of_cell? w _ hw272_4)).trans hw272_4), ((HB.out.cell (World.block_lt_of_cell? w _ hw272_5)).trans hw272_5)⟩ (fun hHeld => ?_); refine with_tabW bonsairef13_May.tab6 bonsairef13_May.bits6 (fun HT_ HW_ => ?_)
                      generalize wr.drew = w16 at HB hx269_0 hx269_1 hx269_2 hx269_3 hx269_4 hx269_5 hx271_0 hx271_1 hx271_2 hx271_3 hx271_4 hx271_5 hx272_0 hx272_1 hx272_2 hx272_3 hx272_4 hx272_5 hHeld ⊢
                      refine pure_ (i := 0) (N := some 13) (v := ?_) (a' := ?_) #[true, false, false, false, false, false, false, false, false, false, false, false, false, false, false, false, false, false, false, false, false, false, false, false, false] rfl rfl (any_of HT_.out (by kernel_rfl)) (fun _ _ _ h => h) (Or.inl ⟨by rfl, ?_⟩) ?_ ?_
                      rotate_left
                      · intro w'
                        go_simp
                        with_reducible rfl
                      rotate_left
                      · simp only [Act.put, List.setIfInBounds_toArray, List.set_cons_zero, List.set_cons_succ, i64_w, i32_w]
                        rfl
                      refine pure_ (i := 1) (N := some 14) (v := ?_) (a' := ?_) #[true, true, false, false, false, false, false, false, false, false, false, false, false, false, false, false, false, false, false, false, false, false, false, false, false] rfl rfl (any_of HT_.out (by kernel_rfl)) (fun _ _ _ h => h) (Or.inl ⟨by rfl, ?_⟩) ?_ ?_
                      rotate_left
                      · intro w'
                        go_simp
                        with_reducible rfl
                      rotate_left
                      · simp only [Act.put, List.setIfInBounds_toArray, List.set_cons_zero, List.set_cons_succ, i64_w, i32_w]
                        rfl
                      refine pure_ (i := 2) (N := some 15) (v := ?_) (a' := ?_) #[true, true, true, false, false, false, false, false, false, false, false, false, false, false, false, false, false, false, false, false, false, false, false, false, false] rfl rfl (any_of HT_.out (by kernel_rfl)) (fun _ _ _ h => h) (Or.inl ⟨by rfl, ?_⟩) ?_ ?_
                      rotate_left
                      · intro w'
                        go_simp
                        with_reducible rfl
                      rotate_left
                      · simp only [Act.put, List.setIfInBounds_toArray, List.set_cons_zero, List.set_cons_succ, i64_w, i32_w]
                        rfl
                      refine take_ (i := 3) (N := some 16) (v := ?_) (a' := ?_) #[true, true, true, true, false, false, false, false, false, false, false, false, false, false, false, false, false, false, false, false, false, false, false, false, false] rfl rfl (take_ofW HT_.out HW_.out (by kernel_rfl)) (fun _ _ _ h => h) (Or.inl ⟨by rfl, ?_⟩) hHeld ?_ ?_
                      rotate_left
                      · rintro w' ⟨s0, s1, s2, s3, s4, s5, s6, s7, s8, s9, s10, s11, s12, s13, s14, s15, s16, s17⟩
                        go_simp
                        with_reducible rfl
                      rotate_left
                      · simp only [Act.put, List.setIfInBounds_toArray, List.set_cons_zero, List.set_cons_succ, i64_w, i32_w]
                        rfl
                      refine one_ (i := 4) (N := some 17) #[true, true, true, true, true, false, false, false, false, false, false, false, false, false, false, false, false, false, false, false, false, false, false, false, false] rfl rfl (one_of HT_.out (by kernel_rfl)) (by decide) (fun K hK => ?_)
                      refine goes_ Try.func41 (by kernel_rfl) rfl #[.agg #[.int .i64 ((rd_T30 l0 x3_1).f0.f0), .int .i64 ((rd_T30 l0 x3_1).f0.f1), .int .i64 ((rd_T30 l0 x3_1).f1), .int .i64 ((rd_T30 l0 x3_1).f2), .string ((rd_T30 l0 x3_1).f3), .float .f64 bv269_5]] (by rfl) rfl rfl (by (try simp only [List.map_toArray, List.map_cons, List.map_nil]); first | done | rfl | (simp only [List.length_drop, List.length_take]; rfl)) ?_
                      with_reducible refine (bonsairef13_One.calls k1 ((rd_T30 l0 x3_1).f0.f0) ((rd_T30 l0 x3_1).f0.f1) ((rd_T30 l0 x3_1).f1) ((rd_T30 l0 x3_1).f2) ((rd_T30 l0 x3_1).f3) _ ((rd_T30 l0 x3_1).f4) true _ ?side1 A5.out).mono ?_
                      (case side1 => exact (by first | assumption | exact FB_lit _ _ rfl | exact FB_int _ | simpa using (by assumption)))
                      rintro e w17 ⟨rfl, hb⟩
                      refine ⟨_, rfl, ?_⟩
                      have n0_ := Aside0.mk (below_step (by repeat (first | (with_reducible first | exact HB.out | apply below_alloc | apply pw_below_drewN | apply below_drew1) | exact HB.out)) hb)
                      clear HB
                      have HB := n0_
                      clear n0_
                      (try clear hb)
                      (try clear hb2)
                      (try clear hk)
                      (try clear hi)
                      refine hK.out _ _ ⟨((HB.out.cell (World.block_lt_of_cell? w _ hw269_0)).trans hw269_0), ((HB.out.cell (World.block_lt_of_cell? w _ hw269_1)).trans hw269_1), ((HB.out.cell (World.block_lt_of_cell? w _ hw269_2)).trans hw269_2), ((HB.out.cell (World.block_lt_of_cell? w _ hw269_3)).trans hw269_3), ((HB.out.cell (World.block_lt_of_cell? w _ hw269_4)).trans hw269_4), ((HB.out.cell (World.block_lt_of_cell? w _ hw269_5)).trans hw269_5), ((HB.out.cell (World.block_lt_of_cell? w _ hw271_0)).trans hw271_0), ((HB.out.cell (World.block_lt_of_cell? w _ hw271_1)).trans hw271_1), ((HB.out.cell (World.block_lt_of_cell? w _ hw271_2)).trans hw271_2), ((HB.out.cell (World.block_lt_of_cell? w _ hw271_3)).trans hw271_3), ((HB.out.cell (World.block_lt_of_cell? w _ hw271_4)).trans hw271_4), ((HB.out.cell (World.block_lt_of_cell? w _ hw271_5)).trans hw271_5), ((HB.out.cell (World.block_lt_of_cell? w _ hw272_0)).trans hw272_0), ((HB.out.cell (World.block_lt_of_cell? w _ hw272_1)).trans hw272_1), ((HB.out.cell (World.block_lt_of_cell? w _ hw272_2)).trans hw272_2), ((HB.out.cell (World.block_lt_of_cell? w _ hw272_3)).trans hw272_3), ((HB.out.cell (World.block_lt_of_cell? w _ hw272_4)).trans hw272_4), ((HB.out.cell (World.block_lt_of_cell? w _ hw272_5)).trans hw272_5)⟩ (fun hHeld => ?_)
                      clear hK K
                      refine norm_ (a' := ?_) ?_ ?_
                      rotate_left
                      · show Act.put _ (some 17) _ = _
                        simp only [Act.put, List.setIfInBounds_toArray, List.set_cons_zero, List.set_cons_succ, i64_w, i32_w]
                        rfl
                      refine pure_ (i := 5) (N := some 18) (v := ?_) (a' := ?_) #[true, true, true, true, true, true, false, false, false, false, false, false, false, false, false, false, false, false, false, false, false, false, false, false, false] rfl rfl (any_of HT_.out (by kernel_rfl)) (fun _ _ _ h => h) (Or.inl ⟨by rfl, ?_⟩) ?_ ?_
                      rotate_left
                      · intro w'
                        go_simp
                        with_reducible rfl
                      rotate_left
                      · simp only [Act.put, List.setIfInBounds_toArray, List.set_cons_zero, List.set_cons_succ, i64_w, i32_w]
                        rfl
                      refine pure_ (i := 6) (N := some 19) (v := ?_) (a' := ?_) #[true, true, true, true, true, true, true, false, false, false, false, false, false, false, false, false, false, false, false, false, false, false, false, false, false] rfl rfl (any_of HT_.out (by kernel_rfl)) (fun _ _ _ h => h) (Or.inl ⟨by rfl, ?_⟩) ?_ ?_
                      rotate_left
                      · intro w'
                        go_simp
                        with_reducible rfl
                      rotate_left
                      · simp only [Act.put, List.setIfInBounds_toArray, List.set_cons_zero, List.set_cons_succ, i64_w, i32_w]
                        rfl
                      refine pure_ (i := 7) (N := some 20) (v := ?_) (a' := ?_) #[true, true, true, true, true, true, true, true, false, false, false, false, false, false, false, false, false, false, false, false, false, false, false, false, false] rfl rfl (any_of HT_.out (by kernel_rfl)) (fun _ _ _ h => h) (Or.inl ⟨by rfl, ?_⟩) ?_ ?_
                      rotate_left
                      · intro w'
                        go_simp
                        with_reducible rfl
                      rotate_left
                      · simp only [Act.put, List.setIfInBounds_toArray, List.set_cons_zero, List.set_cons_succ, i64_w, i32_w]
                        rfl
                      refine pure_ (i := 8) (N := some 21) (v := ?_) (a' := ?_) #[true, true, true, true, true, true, true, true, true, false, false, false, false, false, false, false, false, false, false, false, false, false, false, false, false] rfl rfl (any_of HT_.out (by kernel_rfl)) (fun _ _ _ h => h) (Or.inl ⟨by rfl, ?_⟩) ?_ ?_
                      rotate_left
                      · intro w'
                        go_simp
                        with_reducible rfl
                      rotate_left
                      · simp only [Act.put, List.setIfInBounds_toArray, List.set_cons_zero, List.set_cons_succ, i64_w, i32_w]
                        rfl
                      refine pure_ (i := 9) (N := some 22) (v := ?_) (a' := ?_) #[true, true, true, true, true, true, true, true, true, true, false, false, false, false, false, false, false, false, false, false, false, false, false, false, false] rfl rfl (any_of HT_.out (by kernel_rfl)) (fun _ _ _ h => h) (Or.inl ⟨by rfl, ?_⟩) ?_ ?_
                      rotate_left
                      · intro w'
                        go_simp
                        with_reducible rfl
                      rotate_left
                      · simp only [Act.put, List.setIfInBounds_toArray, List.set_cons_zero, List.set_cons_succ, i64_w, i32_w]
                        rfl
                      refine pure_ (i := 10) (N := some 23) (v := ?_) (a' := ?_) #[true, true, true, true, true, true, true, true, true, true, true, false, false, false, false, false, false, false, false, false, false, false, false, false, false] rfl rfl (any_of HT_.out (by kernel_rfl)) (fun _ _ _ h => h) (Or.inl ⟨by rfl, ?_⟩) ?_ ?_
                      rotate_left
                      · intro w'
                        go_simp
                        with_reducible rfl
                      rotate_left
                      · simp only [Act.put, List.setIfInBounds_toArray, List.set_cons_zero, List.set_cons_succ, i64_w, i32_w]
                        rfl
                      refine pure_ (i := 11) (N := some 24) (v := ?_) (a' := ?_) #[true, true, true, true, true, true, true, true, true, true, true, true, false, false, false, false, false, false, false, false, false, false, false, false, false] rfl rfl (any_of HT_.out (by kernel_rfl)) (fun _ _ _ h => h) (Or.inl ⟨by rfl, ?_⟩) ?_ ?_
                      rotate_left
                      · intro w'
                        go_simp
                        with_reducible rfl
                      rotate_left
                      · simp only [Act.put, List.setIfInBounds_toArray, List.set_cons_zero, List.set_cons_succ, i64_w, i32_w]
                        rfl
                      refine pure_ (i := 12) (N := some 25) (v := ?_) (a' := ?_) #[true, true, true, true, true, true, true, true, true, true, true, true, true, false, false, false, false, false, false, false, false, false, false, false, false] rfl rfl (any_of HT_.out (by kernel_rfl)) (fun _ _ _ h => h) (Or.inl ⟨by rfl, ?_⟩) ?_ ?_
                      rotate_left
                      · intro w'
                        go_simp
                        with_reducible rfl
                      rotate_left
                      · simp only [Act.put, List.setIfInBounds_toArray, List.set_cons_zero, List.set_cons_succ, i64_w, i32_w]
                        rfl
                      refine pure_ (i := 13) (N := some 26) (v := ?_) (a' := ?_) #[true, true, true, true, true, true, true, true, true, true, true, true, true, true, false, false, false, false, false, false, false, false, false, false, false] rfl rfl (any_of HT_.out (by kernel_rfl)) (fun _ _ _ h => h) (Or.inl ⟨by rfl, ?_⟩) ?_ ?_
                      rotate_left
                      · intro w'
                        go_simp
                        with_reducible rfl
                      rotate_left
                      · simp only [Act.put, List.setIfInBounds_toArray, List.set_cons_zero, List.set_cons_succ, i64_w, i32_w]
                        rfl
                      refine pure_ (i := 14) (N := some 27) (v := ?_) (a' := ?_) #[true, true, true, true, true, true, true, true, true, true, true, true, true, true, true, false, false, false, false, false, false, false, false, false, false] rfl rfl (any_of HT_.out (by kernel_rfl)) (fun _ _ _ h => h) (Or.inl ⟨by rfl, ?_⟩) ?_ ?_
                      rotate_left
                      · intro w'
                        go_simp
                        with_reducible rfl
                      rotate_left
                      · simp only [Act.put, List.setIfInBounds_toArray, List.set_cons_zero, List.set_cons_succ, i64_w, i32_w]
                        rfl
                      refine pure_ (i := 16) (N := some 29) (v := ?_) (a' := ?_) #[true, true, true, true, true, true, true, true, true, true, true, true, true, true, true, false, true, false, false, false, false, false, false, false, false] rfl rfl (any_of HT_.out (by kernel_rfl)) (fun _ _ _ h => h) (Or.inl ⟨by rfl, ?_⟩) ?_ ?_
                      rotate_left
                      · intro w'
                        go_simp
                        with_reducible rfl
                      rotate_left
                      · simp only [Act.put, List.setIfInBounds_toArray, List.set_cons_zero, List.set_cons_succ, i64_w, i32_w]
                        rfl
                      refine pure_ (i := 17) (N := some 30) (v := ?_) (a' := ?_) #[true, true, true, true, true, true, true, true, true, true, true, true, true, true, true, false, true, true, false, false, false, false, false, false, false] rfl rfl (any_of HT_.out (by kernel_rfl)) (fun _ _ _ h => h) (Or.inl ⟨by rfl, ?_⟩) ?_ ?_
                      rotate_left
                      · intro w'
                        go_simp
                        with_reducible rfl
                      rotate_left
                      · simp only [Act.put, List.setIfInBounds_toArray, List.set_cons_zero, List.set_cons_succ, i64_w, i32_w]
                        rfl
                      refine pure_ (i := 18) (N := some 31) (v := ?_) (a' := ?_) #[true, true, true, true, true, true, true, true, true, true, true, true, true, true, true, false, true, true, true, false, false, false, false, false, false] rfl rfl (any_of HT_.out (by kernel_rfl)) (fun _ _ _ h => h) (Or.inl ⟨by rfl, ?_⟩) ?_ ?_
                      rotate_left
                      · intro w'
                        go_simp
                        with_reducible rfl
                      rotate_left
                      · simp only [Act.put, List.setIfInBounds_toArray, List.set_cons_zero, List.set_cons_succ, i64_w, i32_w]
                        rfl
                      refine pure_ (i := 19) (N := some 32) (v := ?_) (a' := ?_) #[true, true, true, true, true, true, true, true, true, true, true, true, true, true, true, false, true, true, true, true, false, false, false, false, false] rfl rfl (any_of HT_.out (by kernel_rfl)) (fun _ _ _ h => h) (Or.inl ⟨by rfl, ?_⟩) ?_ ?_
                      rotate_left
                      · intro w'
                        go_simp
                        with_reducible rfl
                      rotate_left
                      · simp only [Act.put, List.setIfInBounds_toArray, List.set_cons_zero, List.set_cons_succ, i64_w, i32_w]
                        rfl
                      refine take_ (i := 15) (N := some 28) (v := ?_) (a' := ?_) #[true, true, true, true, true, true, true, true, true, true, true, true, true, true, true, true, true, true, true, true, false, false, false, false, false] rfl rfl (take_ofW HT_.out HW_.out (by kernel_rfl)) (fun _ _ _ h => h) (Or.inl ⟨by rfl, ?_⟩) hHeld ?_ ?_
                      rotate_left
                      · rintro w' ⟨s0, s1, s2, s3, s4, s5, s6, s7, s8, s9, s10, s11, s12, s13, s14, s15, s16, s17⟩
                        go_simp
                        with_reducible rfl
                      rotate_left
                      · simp only [Act.put, List.setIfInBounds_toArray, List.set_cons_zero, List.set_cons_succ, i64_w, i32_w]
                        rfl
                      refine take_ (i := 20) (N := some 33) (v := ?_) (a' := ?_) #[true, true, true, true, true, true, true, true, true, true, true, true, true, true, true, true, true, true, true, true, true, false, false, false, false] rfl rfl (take_ofW HT_.out HW_.out (by kernel_rfl)) (fun _ _ _ h => h) (Or.inl ⟨by rfl, ?_⟩) hHeld ?_ ?_
                      rotate_left
                      · rintro w' ⟨s0, s1, s2, s3, s4, s5, s6, s7, s8, s9, s10, s11, s12, s13, s14, s15, s16, s17⟩
                        go_simp
                        with_reducible rfl
                      rotate_left
                      · simp only [Act.put, List.setIfInBounds_toArray, List.set_cons_zero, List.set_cons_succ, i64_w, i32_w]
                        rfl
                      refine one_ (i := 21) (N := some 34) #[true, true, true, true, true, true, true, true, true, true, true, true, true, true, true, true, true, true, true, true, true, true, false, false, false] rfl rfl (one_of HT_.out (by kernel_rfl)) (by decide) (fun K hK => ?_)
                      refine goes_ Try.func42 (by kernel_rfl) rfl #[.agg #[.int .i64 ((rd_T30 l0 (ji8)).f0.f0), .int .i64 ((rd_T30 l0 (ji8)).f0.f1)], .agg #[.int .i64 ((rd_T30 l0 x3_1).f0.f0), .int .i64 ((rd_T30 l0 x3_1).f0.f1)]] (by rfl) rfl rfl (by (try simp only [List.map_toArray, List.map_cons, List.map_nil]); first | done | (simp only [hji8]; rfl) | rfl | (simp only [List.length_drop, List.length_take]; rfl)) ?_
                      with_reducible refine (bonsairef02_Before.calls ((rd_T30 l0 (ji8)).f0.f0) ((rd_T30 l0 (ji8)).f0.f1) ((rd_T30 l0 x3_1).f0.f0) ((rd_T30 l0 x3_1).f0.f1) false _ A11.out).mono ?_
                      rintro e w18 ⟨rfl, hb⟩
                      refine ⟨_, rfl, ?_⟩
                      have n0_ := Aside0.mk (below_step (by repeat (first | (with_reducible first | exact HB.out | apply below_alloc | apply pw_below_drewN | apply below_drew1) | exact HB.out)) hb)
                      clear HB
                      have HB := n0_
                      clear n0_
                      (try clear hb)
                      (try clear hb2)
                      (try clear hk)
                      (try clear hi)
                      refine hK.out _ _ ⟨((HB.out.cell (World.block_lt_of_cell? w _ hw269_0)).trans hw269_0), ((HB.out.cell (World.block_lt_of_cell? w _ hw269_1)).trans hw269_1), ((HB.out.cell (World.block_lt_of_cell? w _ hw269_2)).trans hw269_2), ((HB.out.cell (World.block_lt_of_cell? w _ hw269_3)).trans hw269_3), ((HB.out.cell (World.block_lt_of_cell? w _ hw269_4)).trans hw269_4), ((HB.out.cell (World.block_lt_of_cell? w _ hw269_5)).trans hw269_5), ((HB.out.cell (World.block_lt_of_cell? w _ hw271_0)).trans hw271_0), ((HB.out.cell (World.block_lt_of_cell? w _ hw271_1)).trans hw271_1), ((HB.out.cell (World.block_lt_of_cell? w _ hw271_2)).trans hw271_2), ((HB.out.cell (World.block_lt_of_cell? w _ hw271_3)).trans hw271_3), ((HB.out.cell (World.block_lt_of_cell? w _ hw271_4)).trans hw271_4), ((HB.out.cell (World.block_lt_of_cell? w _ hw271_5)).trans hw271_5), ((HB.out.cell (World.block_lt_of_cell? w _ hw272_0)).trans hw272_0), ((HB.out.cell (World.block_lt_of_cell? w _ hw272_1)).trans hw272_1), ((HB.out.cell (World.block_lt_of_cell? w _ hw272_2)).trans hw272_2), ((HB.out.cell (World.block_lt_of_cell? w _ hw272_3)).trans hw272_3), ((HB.out.cell (World.block_lt_of_cell? w _ hw272_4)).trans hw272_4), ((HB.out.cell (World.block_lt_of_cell? w _ hw272_5)).trans hw272_5)⟩ (fun hHeld => ?_)
                      clear hK K
                      refine norm_ (a' := ?_) ?_ ?_
                      rotate_left
                      · show Act.put _ (some 34) _ = _
                        simp only [Act.put, List.setIfInBounds_toArray, List.set_cons_zero, List.set_cons_succ, i64_w, i32_w]
                        rfl
                      refine pure_ (i := 22) (N := some 35) (v := ?_) (a' := ?_) #[true, true, true, true, true, true, true, true, true, true, true, true, true, true, true, true, true, true, true, true, true, true, true, false, false] rfl rfl (any_of HT_.out (by kernel_rfl)) (fun _ _ _ h => h) (Or.inl ⟨by rfl, ?_⟩) ?_ ?_
                      rotate_left
                      · intro w'
                        go_simp
                        with_reducible rfl
                      rotate_left
                      · simp only [Act.put, List.setIfInBounds_toArray, List.set_cons_zero, List.set_cons_succ, i64_w, i32_w]
                        rfl
                      refine pure_ (i := 23) (N := some 36) (v := ?_) (a' := ?_) #[true, true, true, true, true, true, true, true, true, true, true, true, true, true, true, true, true, true, true, true, true, true, true, true, false] rfl rfl (any_of HT_.out (by kernel_rfl)) (fun _ _ _ h => h) (Or.inl ⟨by rfl, ?_⟩) ?_ ?_
                      rotate_left
                      · intro w'
                        go_simp
                        with_reducible rfl
                      rotate_left
                      · simp only [Act.put, List.setIfInBounds_toArray, List.set_cons_zero, List.set_cons_succ, i64_w, i32_w]
                        rfl
                      refine pure_ (i := 24) (N := some 37) (v := ?_) (a' := ?_) #[true, true, true, true, true, true, true, true, true, true, true, true, true, true, true, true, true, true, true, true, true, true, true, true, true] rfl rfl (any_of HT_.out (by kernel_rfl)) (fun _ _ _ h => h) (Or.inl ⟨by rfl, ?_⟩) ?_ ?_
                      rotate_left
                      · intro w'
                        go_simp
                        with_reducible rfl
                      rotate_left
                      · simp only [Act.put, List.setIfInBounds_toArray, List.set_cons_zero, List.set_cons_succ, i64_w, i32_w]
                        rfl
                      refine done_ (done_of HT_.out (by kernel_rfl)) ?_
                      try go_wp2
                      go_ret
                      (try simp only [hji8])
                      exact ⟨by first | rfl | (simp [errW_none, errW_some] <;> rfl) | (simp only [← hji8]; first | rfl | (simp [errW_none, errW_some] <;> rfl)) | (simp [*, errW_none, errW_some] <;> rfl), by repeat (first | (with_reducible first | exact HB.out | apply below_alloc | apply pw_below_drewN | apply below_drew1) | exact HB.out)⟩
                  · rw [if_neg c10] at H
                    exact absurd H (by simp)
                · rw [if_neg c9] at H
                  exact absurd H (by simp)
              · rw [if_neg c7] at H
                have c7b0 : decide (0 < x3_1) = false := decide_eq_false c7
                clear c7
                have H' := Aside0.mk H
                clear H
                try go_wp2
                have n0_ := Aside0.mk (below_drew1 HB.out)
                clear HB
                have HB := n0_
                clear n0_
                have p269 : 0 ≤ (x3_1 : Int) := of_decide_eq_true (by first | (with_reducible assumption) | assumption)
                have q269 : x3_1 < (l0.length : Int) := of_decide_eq_true (by first | (with_reducible assumption) | assumption)
                obtain ⟨ad269, bv269_5, e269, hx269_0, hx269_1, hx269_2, hx269_3, hx269_4, hx269_5, bq269_5⟩ := at_T30 HR0.out x3_1 p269 q269
                have hw269_5 := hx269_5
                have hw269_4 := hx269_4
                have hw269_3 := hx269_3
                have hw269_2 := hx269_2
                have hw269_1 := hx269_1
                have hw269_0 := hx269_0
                cases e269
                replace hx269_0 := (HB.out.cell (World.block_lt_of_cell? w _ hx269_0)).trans hx269_0
                replace hx269_1 := (HB.out.cell (World.block_lt_of_cell? w _ hx269_1)).trans hx269_1
                replace hx269_2 := (HB.out.cell (World.block_lt_of_cell? w _ hx269_2)).trans hx269_2
                replace hx269_3 := (HB.out.cell (World.block_lt_of_cell? w _ hx269_3)).trans hx269_3
                replace hx269_4 := (HB.out.cell (World.block_lt_of_cell? w _ hx269_4)).trans hx269_4
                replace hx269_5 := (HB.out.cell (World.block_lt_of_cell? w _ hx269_5)).trans hx269_5
                replace p269 := eq_true p269
                replace q269 := eq_true q269
                refine start_ (n := 25) (S := fun w' => w'.cell? (ad269.add ((x3_1).toNat * 6)) = some (.int .i64 ((rd_T30 l0 x3_1).f0.f0)) ∧ w'.cell? ⟨(ad269.add ((x3_1).toNat * 6)).block, (ad269.add ((x3_1).toNat * 6)).off + 1, none⟩ = some (.int .i64 ((rd_T30 l0 x3_1).f0.f1)) ∧ w'.cell? ⟨(ad269.add ((x3_1).toNat * 6)).block, (ad269.add ((x3_1).toNat * 6)).off + 2, none⟩ = some (.int .i64 ((rd_T30 l0 x3_1).f1)) ∧ w'.cell? ⟨(ad269.add ((x3_1).toNat * 6)).block, (ad269.add ((x3_1).toNat * 6)).off + 3, none⟩ = some (.int .i64 ((rd_T30 l0 x3_1).f2)) ∧ w'.cell? ⟨(ad269.add ((x3_1).toNat * 6)).block, (ad269.add ((x3_1).toNat * 6)).off + 4, none⟩ = some (.string ((rd_T30 l0 x3_1).f3)) ∧ w'.cell? ⟨(ad269.add ((x3_1).toNat * 6)).block, (ad269.add ((x3_1).toNat * 6)).off + 5, none⟩ = some (.float .f64 bv269_5)) (ds := []) #[false, false, false, false, false, false, false, false, false, false, false, false, false, false, false, false, false, false, false, false, false, false, false, false, false] (by kernel_rfl) rfl rfl ⟨((HB.out.cell (World.block_lt_of_cell? w _ hw269_0)).trans hw269_0), ((HB.out.cell (World.block_lt_of_cell? w _ hw269_1)).trans hw269_1), ((HB.out.cell (World.block_lt_of_cell? w _ hw269_2)).trans hw269_2), ((HB.out.cell (World.block_lt_of_cell? w _ hw269_3)).trans hw269_3), ((HB.out.cell (World.block_lt_of_cell? w _ hw269_4)).trans hw269_4), ((HB.out.cell (World.block_lt_of_cell? w _ hw269_5)).trans hw269_5)⟩ (fun hHeld => ?_); refine with_tabW bonsairef13_May.tab6 bonsairef13_May.bits6 (fun HT_ HW_ => ?_)
                generalize wr.drew = w19 at HB hx269_0 hx269_1 hx269_2 hx269_3 hx269_4 hx269_5 hHeld ⊢
                refine pure_ (i := 0) (N := some 13) (v := ?_) (a' := ?_) #[true, false, false, false, false, false, false, false, false, false, false, false, false, false, false, false, false, false, false, false, false, false, false, false, false] rfl rfl (any_of HT_.out (by kernel_rfl)) (fun _ _ _ h => h) (Or.inl ⟨by rfl, ?_⟩) ?_ ?_
                rotate_left
                · intro w'
                  go_simp
                  with_reducible rfl
                rotate_left
                · simp only [Act.put, List.setIfInBounds_toArray, List.set_cons_zero, List.set_cons_succ, i64_w, i32_w]
                  rfl
                refine pure_ (i := 1) (N := some 14) (v := ?_) (a' := ?_) #[true, true, false, false, false, false, false, false, false, false, false, false, false, false, false, false, false, false, false, false, false, false, false, false, false] rfl rfl (any_of HT_.out (by kernel_rfl)) (fun _ _ _ h => h) (Or.inl ⟨by rfl, ?_⟩) ?_ ?_
                rotate_left
                · intro w'
                  go_simp
                  with_reducible rfl
                rotate_left
                · simp only [Act.put, List.setIfInBounds_toArray, List.set_cons_zero, List.set_cons_succ, i64_w, i32_w]
                  rfl
                refine pure_ (i := 2) (N := some 15) (v := ?_) (a' := ?_) #[true, true, true, false, false, false, false, false, false, false, false, false, false, false, false, false, false, false, false, false, false, false, false, false, false] rfl rfl (any_of HT_.out (by kernel_rfl)) (fun _ _ _ h => h) (Or.inl ⟨by rfl, ?_⟩) ?_ ?_
                rotate_left
                · intro w'
                  go_simp
                  with_reducible rfl
                rotate_left
                · simp only [Act.put, List.setIfInBounds_toArray, List.set_cons_zero, List.set_cons_succ, i64_w, i32_w]
                  rfl
                refine take_ (i := 3) (N := some 16) (v := ?_) (a' := ?_) #[true, true, true, true, false, false, false, false, false, false, false, false, false, false, false, false, false, false, false, false, false, false, false, false, false] rfl rfl (take_ofW HT_.out HW_.out (by kernel_rfl)) (fun _ _ _ h => h) (Or.inl ⟨by rfl, ?_⟩) hHeld ?_ ?_
                rotate_left
                · rintro w' ⟨s0, s1, s2, s3, s4, s5⟩
                  go_simp
                  with_reducible rfl
                rotate_left
                · simp only [Act.put, List.setIfInBounds_toArray, List.set_cons_zero, List.set_cons_succ, i64_w, i32_w]
                  rfl
                refine one_ (i := 4) (N := some 17) #[true, true, true, true, true, false, false, false, false, false, false, false, false, false, false, false, false, false, false, false, false, false, false, false, false] rfl rfl (one_of HT_.out (by kernel_rfl)) (by decide) (fun K hK => ?_)
                refine goes_ Try.func41 (by kernel_rfl) rfl #[.agg #[.int .i64 ((rd_T30 l0 x3_1).f0.f0), .int .i64 ((rd_T30 l0 x3_1).f0.f1), .int .i64 ((rd_T30 l0 x3_1).f1), .int .i64 ((rd_T30 l0 x3_1).f2), .string ((rd_T30 l0 x3_1).f3), .float .f64 bv269_5]] (by rfl) rfl rfl (by (try simp only [List.map_toArray, List.map_cons, List.map_nil]); first | done | rfl | (simp only [List.length_drop, List.length_take]; rfl)) ?_
                with_reducible refine (bonsairef13_One.calls k1 ((rd_T30 l0 x3_1).f0.f0) ((rd_T30 l0 x3_1).f0.f1) ((rd_T30 l0 x3_1).f1) ((rd_T30 l0 x3_1).f2) ((rd_T30 l0 x3_1).f3) _ ((rd_T30 l0 x3_1).f4) true _ ?side1 A5.out).mono ?_
                (case side1 => exact (by first | assumption | exact FB_lit _ _ rfl | exact FB_int _ | simpa using (by assumption)))
                rintro e w20 ⟨rfl, hb⟩
                refine ⟨_, rfl, ?_⟩
                have n0_ := Aside0.mk (below_step (by repeat (first | (with_reducible first | exact HB.out | apply below_alloc | apply pw_below_drewN | apply below_drew1) | exact HB.out)) hb)
                clear HB
                have HB := n0_
                clear n0_
                (try clear hb)
                (try clear hb2)
                (try clear hk)
                (try clear hi)
                refine hK.out _ _ ⟨((HB.out.cell (World.block_lt_of_cell? w _ hw269_0)).trans hw269_0), ((HB.out.cell (World.block_lt_of_cell? w _ hw269_1)).trans hw269_1), ((HB.out.cell (World.block_lt_of_cell? w _ hw269_2)).trans hw269_2), ((HB.out.cell (World.block_lt_of_cell? w _ hw269_3)).trans hw269_3), ((HB.out.cell (World.block_lt_of_cell? w _ hw269_4)).trans hw269_4), ((HB.out.cell (World.block_lt_of_cell? w _ hw269_5)).trans hw269_5)⟩ (fun hHeld => ?_)
                clear hK K
                refine norm_ (a' := ?_) ?_ ?_
                rotate_left
                · show Act.put _ (some 17) _ = _
                  simp only [Act.put, List.setIfInBounds_toArray, List.set_cons_zero, List.set_cons_succ, i64_w, i32_w]
                  rfl
                refine pure_ (i := 5) (N := some 18) (v := ?_) (a' := ?_) #[true, true, true, true, true, true, false, false, false, false, false, false, false, false, false, false, false, false, false, false, false, false, false, false, false] rfl rfl (any_of HT_.out (by kernel_rfl)) (fun _ _ _ h => h) (Or.inl ⟨by rfl, ?_⟩) ?_ ?_
                rotate_left
                · intro w'
                  go_simp
                  with_reducible rfl
                rotate_left
                · simp only [Act.put, List.setIfInBounds_toArray, List.set_cons_zero, List.set_cons_succ, i64_w, i32_w]
                  rfl
                refine pure_ (i := 6) (N := some 19) (v := ?_) (a' := ?_) #[true, true, true, true, true, true, true, false, false, false, false, false, false, false, false, false, false, false, false, false, false, false, false, false, false] rfl rfl (any_of HT_.out (by kernel_rfl)) (fun _ _ _ h => h) (Or.inl ⟨by rfl, ?_⟩) ?_ ?_
                rotate_left
                · intro w'
                  go_simp
                  with_reducible rfl
                rotate_left
                · simp only [Act.put, List.setIfInBounds_toArray, List.set_cons_zero, List.set_cons_succ, i64_w, i32_w]
                  rfl
                refine pure_ (i := 7) (N := some 20) (v := ?_) (a' := ?_) #[true, true, true, true, true, true, true, true, false, false, false, false, false, false, false, false, false, false, false, false, false, false, false, false, false] rfl rfl (any_of HT_.out (by kernel_rfl)) (fun _ _ _ h => h) (Or.inl ⟨by rfl, ?_⟩) ?_ ?_
                rotate_left
                · intro w'
                  go_simp
                  with_reducible rfl
                rotate_left
                · simp only [Act.put, List.setIfInBounds_toArray, List.set_cons_zero, List.set_cons_succ, i64_w, i32_w]
                  rfl
                refine pure_ (i := 8) (N := some 21) (v := ?_) (a' := ?_) #[true, true, true, true, true, true, true, true, true, false, false, false, false, false, false, false, false, false, false, false, false, false, false, false, false] rfl rfl (any_of HT_.out (by kernel_rfl)) (fun _ _ _ h => h) (Or.inl ⟨by rfl, ?_⟩) ?_ ?_
                rotate_left
                · intro w'
                  go_simp
                  with_reducible rfl
                rotate_left
                · simp only [Act.put, List.setIfInBounds_toArray, List.set_cons_zero, List.set_cons_succ, i64_w, i32_w]
                  rfl
                refine pure_ (i := 9) (N := some 22) (v := ?_) (a' := ?_) #[true, true, true, true, true, true, true, true, true, true, false, false, false, false, false, false, false, false, false, false, false, false, false, false, false] rfl rfl (any_of HT_.out (by kernel_rfl)) (fun _ _ _ h => h) (Or.inl ⟨by rfl, ?_⟩) ?_ ?_
                rotate_left
                · intro w'
                  go_simp
                  with_reducible rfl
                rotate_left
                · simp only [Act.put, List.setIfInBounds_toArray, List.set_cons_zero, List.set_cons_succ, i64_w, i32_w]
                  rfl
                refine pure_ (i := 10) (N := some 23) (v := undef) (a' := ?_) #[true, true, true, true, true, true, true, true, true, true, true, false, false, false, false, false, false, false, false, false, false, false, false, false, false] rfl rfl (any_of HT_.out (by kernel_rfl)) (fun _ _ _ h => h) (Or.inr ⟨by rfl, rfl⟩) ?_ ?_
                rotate_left
                · simp only [Act.put, List.setIfInBounds_toArray, List.set_cons_zero, List.set_cons_succ, i64_w, i32_w]
                  rfl
                refine pure_ (i := 11) (N := some 24) (v := undef) (a' := ?_) #[true, true, true, true, true, true, true, true, true, true, true, true, false, false, false, false, false, false, false, false, false, false, false, false, false] rfl rfl (any_of HT_.out (by kernel_rfl)) (fun _ _ _ h => h) (Or.inr ⟨by rfl, rfl⟩) ?_ ?_
                rotate_left
                · simp only [Act.put, List.setIfInBounds_toArray, List.set_cons_zero, List.set_cons_succ, i64_w, i32_w]
                  rfl
                refine pure_ (i := 12) (N := some 25) (v := undef) (a' := ?_) #[true, true, true, true, true, true, true, true, true, true, true, true, true, false, false, false, false, false, false, false, false, false, false, false, false] rfl rfl (any_of HT_.out (by kernel_rfl)) (fun _ _ _ h => h) (Or.inr ⟨by rfl, rfl⟩) ?_ ?_
                rotate_left
                · simp only [Act.put, List.setIfInBounds_toArray, List.set_cons_zero, List.set_cons_succ, i64_w, i32_w]
                  rfl
                refine pure_ (i := 13) (N := some 26) (v := undef) (a' := ?_) #[true, true, true, true, true, true, true, true, true, true, true, true, true, true, false, false, false, false, false, false, false, false, false, false, false] rfl rfl (any_of HT_.out (by kernel_rfl)) (fun _ _ _ h => h) (Or.inr ⟨by rfl, rfl⟩) ?_ ?_
                rotate_left
                · simp only [Act.put, List.setIfInBounds_toArray, List.set_cons_zero, List.set_cons_succ, i64_w, i32_w]
                  rfl
                refine pure_ (i := 14) (N := some 27) (v := undef) (a' := ?_) #[true, true, true, true, true, true, true, true, true, true, true, true, true, true, true, false, false, false, false, false, false, false, false, false, false] rfl rfl (any_of HT_.out (by kernel_rfl)) (fun _ _ _ h => h) (Or.inr ⟨by rfl, rfl⟩) ?_ ?_
                rotate_left
                · simp only [Act.put, List.setIfInBounds_toArray, List.set_cons_zero, List.set_cons_succ, i64_w, i32_w]
                  rfl
                refine pure_ (i := 15) (N := some 28) (v := undef) (a' := ?_) #[true, true, true, true, true, true, true, true, true, true, true, true, true, true, true, true, false, false, false, false, false, false, false, false, false] rfl rfl (any_of HT_.out (by kernel_rfl)) (fun _ _ _ h => h) (Or.inr ⟨by rfl, rfl⟩) ?_ ?_
                rotate_left
                · simp only [Act.put, List.setIfInBounds_toArray, List.set_cons_zero, List.set_cons_succ, i64_w, i32_w]
                  rfl
                refine pure_ (i := 16) (N := some 29) (v := undef) (a' := ?_) #[true, true, true, true, true, true, true, true, true, true, true, true, true, true, true, true, true, false, false, false, false, false, false, false, false] rfl rfl (any_of HT_.out (by kernel_rfl)) (fun _ _ _ h => h) (Or.inr ⟨by rfl, rfl⟩) ?_ ?_
                rotate_left
                · simp only [Act.put, List.setIfInBounds_toArray, List.set_cons_zero, List.set_cons_succ, i64_w, i32_w]
                  rfl
                refine pure_ (i := 17) (N := some 30) (v := undef) (a' := ?_) #[true, true, true, true, true, true, true, true, true, true, true, true, true, true, true, true, true, true, false, false, false, false, false, false, false] rfl rfl (any_of HT_.out (by kernel_rfl)) (fun _ _ _ h => h) (Or.inr ⟨by rfl, rfl⟩) ?_ ?_
                rotate_left
                · simp only [Act.put, List.setIfInBounds_toArray, List.set_cons_zero, List.set_cons_succ, i64_w, i32_w]
                  rfl
                refine pure_ (i := 18) (N := some 31) (v := undef) (a' := ?_) #[true, true, true, true, true, true, true, true, true, true, true, true, true, true, true, true, true, true, true, false, false, false, false, false, false] rfl rfl (any_of HT_.out (by kernel_rfl)) (fun _ _ _ h => h) (Or.inr ⟨by rfl, rfl⟩) ?_ ?_
                rotate_left
                · simp only [Act.put, List.setIfInBounds_toArray, List.set_cons_zero, List.set_cons_succ, i64_w, i32_w]
                  rfl
                refine pure_ (i := 19) (N := some 32) (v := undef) (a' := ?_) #[true, true, true, true, true, true, true, true, true, true, true, true, true, true, true, true, true, true, true, true, false, false, false, false, false] rfl rfl (any_of HT_.out (by kernel_rfl)) (fun _ _ _ h => h) (Or.inr ⟨by rfl, rfl⟩) ?_ ?_
                rotate_left
                · simp only [Act.put, List.setIfInBounds_toArray, List.set_cons_zero, List.set_cons_succ, i64_w, i32_w]
                  rfl
                refine pure_ (i := 20) (N := some 33) (v := undef) (a' := ?_) #[true, true, true, true, true, true, true, true, true, true, true, true, true, true, true, true, true, true, true, true, true, false, false, false, false] rfl rfl (any_of HT_.out (by kernel_rfl)) (fun _ _ _ h => h) (Or.inr ⟨by rfl, rfl⟩) ?_ ?_
                rotate_left
                · simp only [Act.put, List.setIfInBounds_toArray, List.set_cons_zero, List.set_cons_succ, i64_w, i32_w]
                  rfl
                refine pure_ (i := 21) (N := some 34) (v := undef) (a' := ?_) #[true, true, true, true, true, true, true, true, true, true, true, true, true, true, true, true, true, true, true, true, true, true, false, false, false] rfl rfl (any_of HT_.out (by kernel_rfl)) (fun _ _ _ h => h) (Or.inr ⟨by rfl, rfl⟩) ?_ ?_
                rotate_left
                · simp only [Act.put, List.setIfInBounds_toArray, List.set_cons_zero, List.set_cons_succ, i64_w, i32_w]
                  rfl
                refine pure_ (i := 22) (N := some 35) (v := undef) (a' := ?_) #[true, true, true, true, true, true, true, true, true, true, true, true, true, true, true, true, true, true, true, true, true, true, true, false, false] rfl rfl (any_of HT_.out (by kernel_rfl)) (fun _ _ _ h => h) (Or.inr ⟨by rfl, rfl⟩) ?_ ?_
                rotate_left
                · simp only [Act.put, List.setIfInBounds_toArray, List.set_cons_zero, List.set_cons_succ, i64_w, i32_w]
                  rfl
                refine pure_ (i := 23) (N := some 36) (v := ?_) (a' := ?_) #[true, true, true, true, true, true, true, true, true, true, true, true, true, true, true, true, true, true, true, true, true, true, true, true, false] rfl rfl (any_of HT_.out (by kernel_rfl)) (fun _ _ _ h => h) (Or.inl ⟨by rfl, ?_⟩) ?_ ?_
                rotate_left
                · intro w'
                  go_simp
                  with_reducible rfl
                rotate_left
                · simp only [Act.put, List.setIfInBounds_toArray, List.set_cons_zero, List.set_cons_succ, i64_w, i32_w]
                  rfl
                refine pure_ (i := 24) (N := some 37) (v := ?_) (a' := ?_) #[true, true, true, true, true, true, true, true, true, true, true, true, true, true, true, true, true, true, true, true, true, true, true, true, true] rfl rfl (any_of HT_.out (by kernel_rfl)) (fun _ _ _ h => h) (Or.inl ⟨by rfl, ?_⟩) ?_ ?_
                rotate_left
                · intro w'
                  go_simp
                  with_reducible rfl
                rotate_left
                · simp only [Act.put, List.setIfInBounds_toArray, List.set_cons_zero, List.set_cons_succ, i64_w, i32_w]
                  rfl
                refine done_ (done_of HT_.out (by kernel_rfl)) ?_
                try go_wp2
                go_roundg k1
                case measure => have := HK1.out; omega
                case rel => exact ⟨(wrap64 (x3_1 + 1)), (by first | rfl | (simp; done) | (simp [*]; done)), H', ⟨by have := HK1.out; omega⟩, ⟨by repeat (first | (with_reducible first | exact HB.out | apply below_alloc | apply pw_below_drewN | apply below_drew1) | exact HB.out)⟩⟩
            · replace c6 := Bool.eq_false_iff.mpr c6
              subst c6
              have H1 : (some false) = some r := by rw [if_neg (show ¬ (false = true) by decide)] at H; exact H
              clear H
              have H := H1
              clear H1
              obtain rfl := Option.some.inj H
              try go_wp2
              have n0_ := Aside0.mk (below_drew1 HB.out)
              clear HB
              have HB := n0_
              clear n0_
              have p269 : 0 ≤ (x3_1 : Int) := of_decide_eq_true (by first | (with_reducible assumption) | assumption)
              have q269 : x3_1 < (l0.length : Int) := of_decide_eq_true (by first | (with_reducible assumption) | assumption)
              obtain ⟨ad269, bv269_5, e269, hx269_0, hx269_1, hx269_2, hx269_3, hx269_4, hx269_5, bq269_5⟩ := at_T30 HR0.out x3_1 p269 q269
              have hw269_5 := hx269_5
              have hw269_4 := hx269_4
              have hw269_3 := hx269_3
              have hw269_2 := hx269_2
              have hw269_1 := hx269_1
              have hw269_0 := hx269_0
              cases e269
              replace hx269_0 := (HB.out.cell (World.block_lt_of_cell? w _ hx269_0)).trans hx269_0
              replace hx269_1 := (HB.out.cell (World.block_lt_of_cell? w _ hx269_1)).trans hx269_1
              replace hx269_2 := (HB.out.cell (World.block_lt_of_cell? w _ hx269_2)).trans hx269_2
              replace hx269_3 := (HB.out.cell (World.block_lt_of_cell? w _ hx269_3)).trans hx269_3
              replace hx269_4 := (HB.out.cell (World.block_lt_of_cell? w _ hx269_4)).trans hx269_4
              replace hx269_5 := (HB.out.cell (World.block_lt_of_cell? w _ hx269_5)).trans hx269_5
              replace p269 := eq_true p269
              replace q269 := eq_true q269
              refine start_ (n := 25) (S := fun w' => w'.cell? (ad269.add ((x3_1).toNat * 6)) = some (.int .i64 ((rd_T30 l0 x3_1).f0.f0)) ∧ w'.cell? ⟨(ad269.add ((x3_1).toNat * 6)).block, (ad269.add ((x3_1).toNat * 6)).off + 1, none⟩ = some (.int .i64 ((rd_T30 l0 x3_1).f0.f1)) ∧ w'.cell? ⟨(ad269.add ((x3_1).toNat * 6)).block, (ad269.add ((x3_1).toNat * 6)).off + 2, none⟩ = some (.int .i64 ((rd_T30 l0 x3_1).f1)) ∧ w'.cell? ⟨(ad269.add ((x3_1).toNat * 6)).block, (ad269.add ((x3_1).toNat * 6)).off + 3, none⟩ = some (.int .i64 ((rd_T30 l0 x3_1).f2)) ∧ w'.cell? ⟨(ad269.add ((x3_1).toNat * 6)).block, (ad269.add ((x3_1).toNat * 6)).off + 4, none⟩ = some (.string ((rd_T30 l0 x3_1).f3)) ∧ w'.cell? ⟨(ad269.add ((x3_1).toNat * 6)).block, (ad269.add ((x3_1).toNat * 6)).off + 5, none⟩ = some (.float .f64 bv269_5)) (ds := []) #[false, false, false, false, false, false, false, false, false, false, false, false, false, false, false, false, false, false, false, false, false, false, false, false, false] (by kernel_rfl) rfl rfl ⟨((HB.out.cell (World.block_lt_of_cell? w _ hw269_0)).trans hw269_0), ((HB.out.cell (World.block_lt_of_cell? w _ hw269_1)).trans hw269_1), ((HB.out.cell (World.block_lt_of_cell? w _ hw269_2)).trans hw269_2), ((HB.out.cell (World.block_lt_of_cell? w _ hw269_3)).trans hw269_3), ((HB.out.cell (World.block_lt_of_cell? w _ hw269_4)).trans hw269_4), ((HB.out.cell (World.block_lt_of_cell? w _ hw269_5)).trans hw269_5)⟩ (fun hHeld => ?_); refine with_tabW bonsairef13_May.tab6 bonsairef13_May.bits6 (fun HT_ HW_ => ?_)
              generalize wr.drew = w21 at HB hx269_0 hx269_1 hx269_2 hx269_3 hx269_4 hx269_5 hHeld ⊢
              refine pure_ (i := 0) (N := some 13) (v := ?_) (a' := ?_) #[true, false, false, false, false, false, false, false, false, false, false, false, false, false, false, false, false, false, false, false, false, false, false, false, false] rfl rfl (any_of HT_.out (by kernel_rfl)) (fun _ _ _ h => h) (Or.inl ⟨by rfl, ?_⟩) ?_ ?_
              rotate_left
              · intro w'
                go_simp
                with_reducible rfl
              rotate_left
              · simp only [Act.put, List.setIfInBounds_toArray, List.set_cons_zero, List.set_cons_succ, i64_w, i32_w]
                rfl
              refine pure_ (i := 1) (N := some 14) (v := ?_) (a' := ?_) #[true, true, false, false, false, false, false, false, false, false, false, false, false, false, false, false, false, false, false, false, false, false, false, false, false] rfl rfl (any_of HT_.out (by kernel_rfl)) (fun _ _ _ h => h) (Or.inl ⟨by rfl, ?_⟩) ?_ ?_
              rotate_left
              · intro w'
                go_simp
                with_reducible rfl
              rotate_left
              · simp only [Act.put, List.setIfInBounds_toArray, List.set_cons_zero, List.set_cons_succ, i64_w, i32_w]
                rfl
              refine pure_ (i := 2) (N := some 15) (v := ?_) (a' := ?_) #[true, true, true, false, false, false, false, false, false, false, false, false, false, false, false, false, false, false, false, false, false, false, false, false, false] rfl rfl (any_of HT_.out (by kernel_rfl)) (fun _ _ _ h => h) (Or.inl ⟨by rfl, ?_⟩) ?_ ?_
              rotate_left
              · intro w'
                go_simp
                with_reducible rfl
              rotate_left
              · simp only [Act.put, List.setIfInBounds_toArray, List.set_cons_zero, List.set_cons_succ, i64_w, i32_w]
                rfl
              refine take_ (i := 3) (N := some 16) (v := ?_) (a' := ?_) #[true, true, true, true, false, false, false, false, false, false, false, false, false, false, false, false, false, false, false, false, false, false, false, false, false] rfl rfl (take_ofW HT_.out HW_.out (by kernel_rfl)) (fun _ _ _ h => h) (Or.inl ⟨by rfl, ?_⟩) hHeld ?_ ?_
              rotate_left
              · rintro w' ⟨s0, s1, s2, s3, s4, s5⟩
                go_simp
                with_reducible rfl
              rotate_left
              · simp only [Act.put, List.setIfInBounds_toArray, List.set_cons_zero, List.set_cons_succ, i64_w, i32_w]
                rfl
              refine one_ (i := 4) (N := some 17) #[true, true, true, true, true, false, false, false, false, false, false, false, false, false, false, false, false, false, false, false, false, false, false, false, false] rfl rfl (one_of HT_.out (by kernel_rfl)) (by decide) (fun K hK => ?_)
              refine goes_ Try.func41 (by kernel_rfl) rfl #[.agg #[.int .i64 ((rd_T30 l0 x3_1).f0.f0), .int .i64 ((rd_T30 l0 x3_1).f0.f1), .int .i64 ((rd_T30 l0 x3_1).f1), .int .i64 ((rd_T30 l0 x3_1).f2), .string ((rd_T30 l0 x3_1).f3), .float .f64 bv269_5]] (by rfl) rfl rfl (by (try simp only [List.map_toArray, List.map_cons, List.map_nil]); first | done | rfl | (simp only [List.length_drop, List.length_take]; rfl)) ?_
              with_reducible refine (bonsairef13_One.calls k1 ((rd_T30 l0 x3_1).f0.f0) ((rd_T30 l0 x3_1).f0.f1) ((rd_T30 l0 x3_1).f1) ((rd_T30 l0 x3_1).f2) ((rd_T30 l0 x3_1).f3) _ ((rd_T30 l0 x3_1).f4) false _ ?side1 A5.out).mono ?_
              (case side1 => exact (by first | assumption | exact FB_lit _ _ rfl | exact FB_int _ | simpa using (by assumption)))
              rintro e w22 ⟨rfl, hb⟩
              refine ⟨_, rfl, ?_⟩
              have n0_ := Aside0.mk (below_step (by repeat (first | (with_reducible first | exact HB.out | apply below_alloc | apply pw_below_drewN | apply below_drew1) | exact HB.out)) hb)
              clear HB
              have HB := n0_
              clear n0_
              (try clear hb)
              (try clear hb2)
              (try clear hk)
              (try clear hi)
              refine hK.out _ _ ⟨((HB.out.cell (World.block_lt_of_cell? w _ hw269_0)).trans hw269_0), ((HB.out.cell (World.block_lt_of_cell? w _ hw269_1)).trans hw269_1), ((HB.out.cell (World.block_lt_of_cell? w _ hw269_2)).trans hw269_2), ((HB.out.cell (World.block_lt_of_cell? w _ hw269_3)).trans hw269_3), ((HB.out.cell (World.block_lt_of_cell? w _ hw269_4)).trans hw269_4), ((HB.out.cell (World.block_lt_of_cell? w _ hw269_5)).trans hw269_5)⟩ (fun hHeld => ?_)
              clear hK K
              refine norm_ (a' := ?_) ?_ ?_
              rotate_left
              · show Act.put _ (some 17) _ = _
                simp only [Act.put, List.setIfInBounds_toArray, List.set_cons_zero, List.set_cons_succ, i64_w, i32_w]
                rfl
              refine pure_ (i := 5) (N := some 18) (v := ?_) (a' := ?_) #[true, true, true, true, true, true, false, false, false, false, false, false, false, false, false, false, false, false, false, false, false, false, false, false, false] rfl rfl (any_of HT_.out (by kernel_rfl)) (fun _ _ _ h => h) (Or.inl ⟨by rfl, ?_⟩) ?_ ?_
              rotate_left
              · intro w'
                go_simp
                with_reducible rfl
              rotate_left
              · simp only [Act.put, List.setIfInBounds_toArray, List.set_cons_zero, List.set_cons_succ, i64_w, i32_w]
                rfl
              refine pure_ (i := 6) (N := some 19) (v := ?_) (a' := ?_) #[true, true, true, true, true, true, true, false, false, false, false, false, false, false, false, false, false, false, false, false, false, false, false, false, false] rfl rfl (any_of HT_.out (by kernel_rfl)) (fun _ _ _ h => h) (Or.inl ⟨by rfl, ?_⟩) ?_ ?_
              rotate_left
              · intro w'
                go_simp
                with_reducible rfl
              rotate_left
              · simp only [Act.put, List.setIfInBounds_toArray, List.set_cons_zero, List.set_cons_succ, i64_w, i32_w]
                rfl
              refine pure_ (i := 7) (N := some 20) (v := undef) (a' := ?_) #[true, true, true, true, true, true, true, true, false, false, false, false, false, false, false, false, false, false, false, false, false, false, false, false, false] rfl rfl (any_of HT_.out (by kernel_rfl)) (fun _ _ _ h => h) (Or.inr ⟨by rfl, rfl⟩) ?_ ?_
              rotate_left
              · simp only [Act.put, List.setIfInBounds_toArray, List.set_cons_zero, List.set_cons_succ, i64_w, i32_w]
                rfl
              refine pure_ (i := 8) (N := some 21) (v := undef) (a' := ?_) #[true, true, true, true, true, true, true, true, true, false, false, false, false, false, false, false, false, false, false, false, false, false, false, false, false] rfl rfl (any_of HT_.out (by kernel_rfl)) (fun _ _ _ h => h) (Or.inr ⟨by rfl, rfl⟩) ?_ ?_
              rotate_left
              · simp only [Act.put, List.setIfInBounds_toArray, List.set_cons_zero, List.set_cons_succ, i64_w, i32_w]
                rfl
              refine pure_ (i := 9) (N := some 22) (v := undef) (a' := ?_) #[true, true, true, true, true, true, true, true, true, true, false, false, false, false, false, false, false, false, false, false, false, false, false, false, false] rfl rfl (any_of HT_.out (by kernel_rfl)) (fun _ _ _ h => h) (Or.inr ⟨by rfl, rfl⟩) ?_ ?_
              rotate_left
              · simp only [Act.put, List.setIfInBounds_toArray, List.set_cons_zero, List.set_cons_succ, i64_w, i32_w]
                rfl
              refine pure_ (i := 10) (N := some 23) (v := undef) (a' := ?_) #[true, true, true, true, true, true, true, true, true, true, true, false, false, false, false, false, false, false, false, false, false, false, false, false, false] rfl rfl (any_of HT_.out (by kernel_rfl)) (fun _ _ _ h => h) (Or.inr ⟨by rfl, rfl⟩) ?_ ?_
              rotate_left
              · simp only [Act.put, List.setIfInBounds_toArray, List.set_cons_zero, List.set_cons_succ, i64_w, i32_w]
                rfl
              refine pure_ (i := 11) (N := some 24) (v := undef) (a' := ?_) #[true, true, true, true, true, true, true, true, true, true, true, true, false, false, false, false, false, false, false, false, false, false, false, false, false] rfl rfl (any_of HT_.out (by kernel_rfl)) (fun _ _ _ h => h) (Or.inr ⟨by rfl, rfl⟩) ?_ ?_
              rotate_left
              · simp only [Act.put, List.setIfInBounds_toArray, List.set_cons_zero, List.set_cons_succ, i64_w, i32_w]
                rfl
              refine pure_ (i := 12) (N := some 25) (v := undef) (a' := ?_) #[true, true, true, true, true, true, true, true, true, true, true, true, true, false, false, false, false, false, false, false, false, false, false, false, false] rfl rfl (any_of HT_.out (by kernel_rfl)) (fun _ _ _ h => h) (Or.inr ⟨by rfl, rfl⟩) ?_ ?_
              rotate_left
              · simp only [Act.put, List.setIfInBounds_toArray, List.set_cons_zero, List.set_cons_succ, i64_w, i32_w]
                rfl
              refine pure_ (i := 13) (N := some 26) (v := undef) (a' := ?_) #[true, true, true, true, true, true, true, true, true, true, true, true, true, true, false, false, false, false, false, false, false, false, false, false, false] rfl rfl (any_of HT_.out (by kernel_rfl)) (fun _ _ _ h => h) (Or.inr ⟨by rfl, rfl⟩) ?_ ?_
              rotate_left
              · simp only [Act.put, List.setIfInBounds_toArray, List.set_cons_zero, List.set_cons_succ, i64_w, i32_w]
                rfl
              refine pure_ (i := 14) (N := some 27) (v := undef) (a' := ?_) #[true, true, true, true, true, true, true, true, true, true, true, true, true, true, true, false, false, false, false, false, false, false, false, false, false] rfl rfl (any_of HT_.out (by kernel_rfl)) (fun _ _ _ h => h) (Or.inr ⟨by rfl, rfl⟩) ?_ ?_
              rotate_left
              · simp only [Act.put, List.setIfInBounds_toArray, List.set_cons_zero, List.set_cons_succ, i64_w, i32_w]
                rfl
              refine pure_ (i := 15) (N := some 28) (v := undef) (a' := ?_) #[true, true, true, true, true, true, true, true, true, true, true, true, true, true, true, true, false, false, false, false, false, false, false, false, false] rfl rfl (any_of HT_.out (by kernel_rfl)) (fun _ _ _ h => h) (Or.inr ⟨by rfl, rfl⟩) ?_ ?_
              rotate_left
              · simp only [Act.put, List.setIfInBounds_toArray, List.set_cons_zero, List.set_cons_succ, i64_w, i32_w]
                rfl
              refine pure_ (i := 16) (N := some 29) (v := undef) (a' := ?_) #[true, true, true, true, true, true, true, true, true, true, true, true, true, true, true, true, true, false, false, false, false, false, false, false, false] rfl rfl (any_of HT_.out (by kernel_rfl)) (fun _ _ _ h => h) (Or.inr ⟨by rfl, rfl⟩) ?_ ?_
              rotate_left
              · simp only [Act.put, List.setIfInBounds_toArray, List.set_cons_zero, List.set_cons_succ, i64_w, i32_w]
                rfl
              refine pure_ (i := 17) (N := some 30) (v := undef) (a' := ?_) #[true, true, true, true, true, true, true, true, true, true, true, true, true, true, true, true, true, true, false, false, false, false, false, false, false] rfl rfl (any_of HT_.out (by kernel_rfl)) (fun _ _ _ h => h) (Or.inr ⟨by rfl, rfl⟩) ?_ ?_
              rotate_left
              · simp only [Act.put, List.setIfInBounds_toArray, List.set_cons_zero, List.set_cons_succ, i64_w, i32_w]
                rfl
              refine pure_ (i := 18) (N := some 31) (v := undef) (a' := ?_) #[true, true, true, true, true, true, true, true, true, true, true, true, true, true, true, true, true, true, true, false, false, false, false, false, false] rfl rfl (any_of HT_.out (by kernel_rfl)) (fun _ _ _ h => h) (Or.inr ⟨by rfl, rfl⟩) ?_ ?_
              rotate_left
              · simp only [Act.put, List.setIfInBounds_toArray, List.set_cons_zero, List.set_cons_succ, i64_w, i32_w]
                rfl
              refine pure_ (i := 19) (N := some 32) (v := undef) (a' := ?_) #[true, true, true, true, true, true, true, true, true, true, true, true, true, true, true, true, true, true, true, true, false, false, false, false, false] rfl rfl (any_of HT_.out (by kernel_rfl)) (fun _ _ _ h => h) (Or.inr ⟨by rfl, rfl⟩) ?_ ?_
              rotate_left
              · simp only [Act.put, List.setIfInBounds_toArray, List.set_cons_zero, List.set_cons_succ, i64_w, i32_w]
                rfl
              refine pure_ (i := 20) (N := some 33) (v := undef) (a' := ?_) #[true, true, true, true, true, true, true, true, true, true, true, true, true, true, true, true, true, true, true, true, true, false, false, false, false] rfl rfl (any_of HT_.out (by kernel_rfl)) (fun _ _ _ h => h) (Or.inr ⟨by rfl, rfl⟩) ?_ ?_
              rotate_left
              · simp only [Act.put, List.setIfInBounds_toArray, List.set_cons_zero, List.set_cons_succ, i64_w, i32_w]
                rfl
              refine pure_ (i := 21) (N := some 34) (v := undef) (a' := ?_) #[true, true, true, true, true, true, true, true, true, true, true, true, true, true, true, true, true, true, true, true, true, true, false, false, false] rfl rfl (any_of HT_.out (by kernel_rfl)) (fun _ _ _ h => h) (Or.inr ⟨by rfl, rfl⟩) ?_ ?_
              rotate_left
              · simp only [Act.put, List.setIfInBounds_toArray, List.set_cons_zero, List.set_cons_succ, i64_w, i32_w]
                rfl
              refine pure_ (i := 22) (N := some 35) (v := undef) (a' := ?_) #[true, true, true, true, true, true, true, true, true, true, true, true, true, true, true, true, true, true, true, true, true, true, true, false, false] rfl rfl (any_of HT_.out (by kernel_rfl)) (fun _ _ _ h => h) (Or.inr ⟨by rfl, rfl⟩) ?_ ?_
              rotate_left
              · simp only [Act.put, List.setIfInBounds_toArray, List.set_cons_zero, List.set_cons_succ, i64_w, i32_w]
                rfl
              refine pure_ (i := 23) (N := some 36) (v := undef) (a' := ?_) #[true, true, true, true, true, true, true, true, true, true, true, true, true, true, true, true, true, true, true, true, true, true, true, true, false] rfl rfl (any_of HT_.out (by kernel_rfl)) (fun _ _ _ h => h) (Or.inr ⟨by rfl, rfl⟩) ?_ ?_
              rotate_left
              · simp only [Act.put, List.setIfInBounds_toArray, List.set_cons_zero, List.set_cons_succ, i64_w, i32_w]
                rfl
              refine pure_ (i := 24) (N := some 37) (v := ?_) (a' := ?_) #[true, true, true, true, true, true, true, true, true, true, true, true, true, true, true, true, true, true, true, true, true, true, true, true, true] rfl rfl (any_of HT_.out (by kernel_rfl)) (fun _ _ _ h => h) (Or.inl ⟨by rfl, ?_⟩) ?_ ?_
              rotate_left
              · intro w'
                go_simp
                with_reducible rfl
              rotate_left
              · simp only [Act.put, List.setIfInBounds_toArray, List.set_cons_zero, List.set_cons_succ, i64_w, i32_w]
                rfl
              refine done_ (done_of HT_.out (by kernel_rfl)) ?_
              try go_wp2
              go_ret
              exact ⟨by first | rfl | (simp [errW_none, errW_some] <;> rfl) | (simp [*, errW_none, errW_some] <;> rfl), by repeat (first | (with_reducible first | exact HB.out | apply below_alloc | apply pw_below_drewN | apply below_drew1) | exact HB.out)⟩
          · rw [if_neg c4] at H
            exact absurd H (by simp)
        · rw [if_neg c3] at H
          have c3b0 : decide (x3_1 < (l0.length : Int)) = false := decide_eq_false c3
          clear c3
          obtain rfl := Option.some.inj H
          go_wp2
          go_ret
          exact ⟨by first | rfl | (simp [errW_none, errW_some] <;> rfl) | (simp [*, errW_none, errW_some] <;> rfl), by repeat (first | (with_reducible first | exact HB.out | apply below_alloc | apply pw_below_drewN | apply below_drew1) | exact HB.out)⟩
end Go.Proofs.Ytfgnjndfnijjoaa.Print
end
namespace Go.Proofs.Ytfgnjndfnijjoaa.Print
end Go.Proofs.Ytfgnjndfnijjoaa.Print
section
namespace Go.Proofs.Ytfgnjndfnijjoaa.Print
open Go.RowKit Go.Proofs.YtfgnjndfnijjoaaW.PrintWords Go.Proofs.YtfgnjndfnijjoaaW.PrintLast Go.Proofs.YtfgnjndfnijjoaaW.PrintMore
attribute [local go_sem] max2_int min2_int max_two min_two max_three min_three max_four min_four
attribute [local go_sem] run_store_float
set_option linter.unusedVariables false
set_option linter.unusedSimpArgs false
mutual
def bonsairef03_Reader_Num.l0 : Nat → Int → Int → Int → ByteArray → Int → Int → Option (Int × ByteArray × Int × Int)
  | 0, _, _, _, _, _, _ => none
  | k + 1, x3, x4, x5, x1000, x1001, x1002 => if x5 < 10 then (bonsairef03_Reader_Num.j1 k x3 x4 x5 (x1002 == 0) x1000 x1001 x1002) else (bonsairef03_Reader_Num.j1 k x3 x4 x5 false x1000 x1001 x1002)
def bonsairef03_Reader_Num.j1 : Nat → Int → Int → Int → Bool → ByteArray → Int → Int → Option (Int × ByteArray × Int × Int)
  | 0, _, _, _, _, _, _, _ => none
  | k + 1, x3, x4, x5, x15, x1000, x1001, x1002 => if x15 = true then (if (wrap64 (x1001 + x5)) ≥ (x1000.size : Int) then (some (0, x1000, x1001, 2)) else (if 0 ≤ (wrap64 (x1001 + x5)) then (if (wrap64 (x1001 + x5)) < (x1000.size : Int) then (if x5 = 9 then (if (IntKind.u64.wrap (bt x1000 (wrap64 (x1001 + x5)))) > 1 then (bonsairef03_Reader_Num.j2 k x3 x4 x5 (IntKind.u64.wrap (bt x1000 (wrap64 (x1001 + x5)))) true x1000 x1001 x1002) else (if x5 > 0 then (bonsairef03_Reader_Num.j2 k x3 x4 x5 (IntKind.u64.wrap (bt x1000 (wrap64 (x1001 + x5)))) ((IntKind.u64.wrap (bt x1000 (wrap64 (x1001 + x5)))) == 0) x1000 x1001 x1002) else (bonsairef03_Reader_Num.j2 k x3 x4 x5 (IntKind.u64.wrap (bt x1000 (wrap64 (x1001 + x5)))) false x1000 x1001 x1002))) else (if x5 > 0 then (bonsairef03_Reader_Num.j2 k x3 x4 x5 (IntKind.u64.wrap (bt x1000 (wrap64 (x1001 + x5)))) ((IntKind.u64.wrap (bt x1000 (wrap64 (x1001 + x5)))) == 0) x1000 x1001 x1002) else (bonsairef03_Reader_Num.j2 k x3 x4 x5 (IntKind.u64.wrap (bt x1000 (wrap64 (x1001 + x5)))) false x1000 x1001 x1002))) else (none)) else (none))) else (some (0, x1000, x1001, x1002))
def bonsairef03_Reader_Num.j2 : Nat → Int → Int → Int → Int → Bool → ByteArray → Int → Int → Option (Int × ByteArray × Int × Int)
  | 0, _, _, _, _, _, _, _, _ => none
  | k + 1, x3, x4, x5, x6, x58, x1000, x1001, x1002 => if x58 = true then (some (0, x1000, x1001, 3)) else (if x6 < 128 then (some (IntKind.u64.wrap (x3 + (IntKind.u64.wrap ((Int.tmod x6 128) * x4))), x1000, wrap64 ((wrap64 (x1001 + x5)) + 1), x1002)) else (bonsairef03_Reader_Num.l0 k (IntKind.u64.wrap (x3 + (IntKind.u64.wrap ((Int.tmod x6 128) * x4)))) (IntKind.u64.wrap (x4 * 128)) (wrap64 (x5 + 1)) x1000 x1001 x1002))
end
def bonsairef03_Reader_Num.f (k : Nat) (s0_0 : ByteArray) (s0_1 : Int) (s0_2 : Int) : Option (Int × ByteArray × Int × Int) := bonsairef03_Reader_Num.l0 k 0 1 0 s0_0 s0_1 s0_2
def bonsairef03_Reader_Left.f (s0_0 : ByteArray) (s0_1 : Int) (s0_2 : Int) : Option (Int × ByteArray × Int × Int) := some (wrap64 ((s0_0.size : Int) - s0_1), s0_0, s0_1, s0_2)
def bonsairef03_Reader_Take.j0 : Nat → Int → Bool → ByteArray → Int → Int → Option (ByteArray × ByteArray × Int × Int)
  | 0, _, _, _, _, _ => none
  | k + 1, x1, x27, x1000, x1001, x1002 => if x27 = true then (some ((⟨#[]⟩ : ByteArray), x1000, x1001, 2)) else (if x1002 = 0 then (if 0 ≤ (wrap64 ((wrap64 (x1001 + x1)) - x1)) then (if (wrap64 ((wrap64 (x1001 + x1)) - x1)) ≤ (wrap64 (x1001 + x1)) then (if (wrap64 (x1001 + x1)) ≤ (x1000.size : Int) then (some (x1000.extract ((wrap64 ((wrap64 (x1001 + x1)) - x1)) : Int).toNat ((wrap64 (x1001 + x1)) : Int).toNat, x1000, wrap64 (x1001 + x1), x1002)) else (none)) else (none)) else (none)) else (some ((⟨#[]⟩ : ByteArray), x1000, x1001, x1002)))
def bonsairef03_Reader_Take.f (k : Nat) (s0_0 : ByteArray) (s0_1 : Int) (s0_2 : Int) (a1 : Int) : Option (ByteArray × ByteArray × Int × Int) := if s0_2 = 0 then (if a1 < 0 then (bonsairef03_Reader_Take.j0 k a1 true s0_0 s0_1 s0_2) else (bonsairef03_Reader_Take.j0 k a1 (decide (a1 > (wrap64 ((s0_0.size : Int) - s0_1)))) s0_0 s0_1 s0_2)) else (bonsairef03_Reader_Take.j0 k a1 false s0_0 s0_1 s0_2)
end Go.Proofs.Ytfgnjndfnijjoaa.Print
end
section
namespace Go.Proofs.Ytfgnjndfnijjoaa.Print
open Go.RowKit Go.Proofs.YtfgnjndfnijjoaaW.PrintWords Go.Proofs.YtfgnjndfnijjoaaW.PrintLast Go.Proofs.YtfgnjndfnijjoaaW.PrintMore
attribute [local go_sem] max2_int min2_int max_two min_two max_three min_three max_four min_four
attribute [local go_sem] run_store_float
set_option linter.unusedVariables false
set_option linter.unusedSimpArgs false
mutual
def bonsairef04_Take.j0 : Nat → ByteArray → Int → Int → Bool → Option (ByteArray × Int × Int)
  | 0, _, _, _, _ => none
  | k + 1, x0, x1, x2, x19 => if x19 = true then (some ((⟨#[]⟩ : ByteArray), 0, 1)) else ((bonsairef03_Reader_Num.f k x0 x1 0).bind fun bt290 => (if bt290.2.2.2 = 0 then (if x2 < 0 then (bonsairef04_Take.j1 k bt290.1 true bt290.2.1 bt290.2.2.1 bt290.2.2.2) else (bonsairef04_Take.j1 k bt290.1 (decide (bt290.1 > (IntKind.u64.wrap (x2)))) bt290.2.1 bt290.2.2.1 bt290.2.2.2)) else (some ((⟨#[]⟩ : ByteArray), 0, bt290.2.2.2))))
def bonsairef04_Take.j1 : Nat → Int → Bool → ByteArray → Int → Int → Option (ByteArray × Int × Int)
  | 0, _, _, _, _, _ => none
  | k + 1, x10, x42, x290000, x290001, x290002 => if x42 = true then (some ((⟨#[]⟩ : ByteArray), 0, 10)) else ((bonsairef03_Reader_Left.f x290000 x290001 x290002).bind fun bt294 => (if x10 > (IntKind.u64.wrap (bt294.1)) then (some ((⟨#[]⟩ : ByteArray), 0, 2)) else ((bonsairef03_Reader_Take.f k bt294.2.1 bt294.2.2.1 bt294.2.2.2 (wrap64 (x10))).bind fun bt298 => ((bonsairef04_Valid.f k bt298.1).bind fun t302 => (if t302 = true then (some (bt298.1, bt298.2.2.1, 0)) else (some ((⟨#[]⟩ : ByteArray), 0, 4)))))))
end
def bonsairef04_Take.f (k : Nat) (a0 : ByteArray) (a1 : Int) (a2 : Int) : Option (ByteArray × Int × Int) := if a1 < 0 then (bonsairef04_Take.j0 k a0 a1 a2 true) else (bonsairef04_Take.j0 k a0 a1 a2 (decide (a1 > (a0.size : Int))))
def bonsairef03_Reader_Fix.l0 : Nat → ByteArray → Int → Int → ByteArray → Int → Int → Option (Int × ByteArray × Int × Int)
  | 0, _, _, _, _, _, _ => none
  | k + 1, x3, x4, x5, x1000, x1001, x1002 => if x5 ≥ 0 then (if 0 ≤ x5 then (if x5 < (x3.size : Int) then (bonsairef03_Reader_Fix.l0 k x3 (IntKind.u64.wrap ((IntKind.u64.wrap (256 * x4)) + (IntKind.u64.wrap (bt x3 x5)))) (wrap64 (x5 - 1)) x1000 x1001 x1002) else (none)) else (none)) else (some (x4, x1000, x1001, x1002))
def bonsairef03_Reader_Fix.f (k : Nat) (s0_0 : ByteArray) (s0_1 : Int) (s0_2 : Int) : Option (Int × ByteArray × Int × Int) := (bonsairef03_Reader_Take.f k s0_0 s0_1 s0_2 8).bind fun bt303 => (bonsairef03_Reader_Fix.l0 k bt303.1 0 (wrap64 ((bt303.1.size : Int) - 1)) bt303.2.1 bt303.2.2.1 bt303.2.2.2)
def bonsairef01_Canon.f (a0 : Int) : Option (Bool) := if (Int.tmod (a0 / 4503599627370496) 2048) = 2047 then (if (Int.tmod a0 4503599627370496) = 0 then (some true) else ((bonsairef01_None.f).bind fun t307 => (some (a0 == t307)))) else (some true)
def bonsairef01_Float.f (a0 : Int) : Option Int := if 0 ≤ a0 ∧ a0 < 18446744073709551616 then some (canonF a0.toNat : Nat) else none
theorem inf_ge (s : Bool) : (9223372036854775808 ≤ Fl.inf s) = (s = true) := by cases s <;> simp [Fl.inf]
theorem sgn_dec {x : Nat} {s : Bool} (k3 : (9223372036854775808 ≤ x) = (s = true)) : decide ((x : Int) ≥ 9223372036854775808) = s := by
  cases s
  · exact decide_eq_false (fun h => absurd (k3 ▸ (show 9223372036854775808 ≤ x by omega)) (by decide))
  · have h : 9223372036854775808 ≤ x := by rw [k3]
    exact decide_eq_true (by omega)
set_option maxHeartbeats 8000000 in
set_option maxRecDepth 100000 in
theorem bonsairef01_Float.nan (x : Nat) (w : World) (hx : x < 18446744073709551616) (hn : 9218868437227405312 < x % 9223372036854775808) (f1 : (x : Int) / 4503599627370496 % 2048 = 2047) (f2 : (x : Int) % 4503599627370496 ≠ 0) :
    Calls Try.prog 40 #[.int .u64 (x : Int)] w fun e_ w' => ∃ b0_ : Nat, e_ = .returned (.float .f64 b0_) ∧ FB b0_ (canonF x : Nat) ∧ Below w.heap.size w w' := by
  have hc : canonF x = 9221120237041090560 := by unfold canonF; rw [if_pos hn]
  rw [hc]
  have d1 : decide ((x : Int) / 4503599627370496 % 2048 = 2047) = true := decide_eq_true f1
  have d2 : decide ((x : Int) % 4503599627370496 = 0) = false := decide_eq_false f2
  have q := nan_run Try.prog 28
  go_enter Try.func40, Try.ntmps40
  go_wp2
  go_ret
  exact ⟨_, rfl, FB_nan w, below_drew (Below.refl _ _)⟩
set_option maxHeartbeats 8000000 in
set_option maxRecDepth 100000 in
theorem bonsairef01_Float.inf (x : Nat) (w : World) (hx : x < 18446744073709551616) (s : Bool) (hz : x = Fl.inf s) (f1 : (x : Int) / 4503599627370496 % 2048 = 2047) (f2 : (x : Int) % 4503599627370496 = 0) :
    Calls Try.prog 40 #[.int .u64 (x : Int)] w fun e_ w' => ∃ b0_ : Nat, e_ = .returned (.float .f64 b0_) ∧ FB b0_ (canonF x : Nat) ∧ Below w.heap.size w w' := by
  have hc : canonF x = x := by unfold canonF; rw [hz]; cases s <;> rfl
  rw [hc]
  have d1 : decide ((x : Int) / 4503599627370496 % 2048 = 2047) = true := decide_eq_true f1
  have d2 : decide ((x : Int) % 4503599627370496 = 0) = true := decide_eq_true f2
  have q : ∀ W, (binOp .quo 28 (.float .f64 4607182418800017408) (.float .f64 0)).run Try.prog W = .ok (.float .f64 (Fl.inf false)) W := fun W => run_float_arith W .quo 28 .f64 _ _ _ (by decide)
  have hng := neg_run Try.prog
  have k3 : (9223372036854775808 ≤ x) = (s = true) := by rw [hz]; exact inf_ge s
  have HZ := Aside0.mk hz
  have hng : ∀ W, (Op.unary .neg (.float .f64 (Fl.inf false))).run Try.prog W = .ok (.float .f64 (Fl.inf true)) W := by
    have h : Op.negFloat .f64 (Fl.inf false) = Fl.inf true := by decide
    intro W
    simp only [Op.unary, h, Sem.run_pure]
  cases s
  · have k3' : decide ((x : Int) ≥ 9223372036854775808) = false := sgn_dec k3
    clear hz k3
    go_enter Try.func40, Try.ntmps40
    go_wp2_with (first | (go_at_call 51; (with_reducible refine (ref_top _).mono ?_); rintro e' w1 ⟨rfl, rfl⟩))
    go_ret
    exact ⟨_, rfl, by rw [HZ.out]; exact FB_inf false, Below.refl _ _⟩
  · have k3' : decide ((x : Int) ≥ 9223372036854775808) = true := sgn_dec k3
    clear hz k3
    go_enter Try.func40, Try.ntmps40
    go_wp2_with (first | (go_at_call 51; (with_reducible refine (ref_top _).mono ?_); rintro e' w1 ⟨rfl, rfl⟩))
    go_ret
    exact ⟨_, rfl, by rw [HZ.out]; exact FB_inf true, Below.refl _ _⟩
set_option maxHeartbeats 8000000 in
set_option maxRecDepth 100000 in
theorem bonsairef01_Float.fin (x : Nat) (w : World) (hx : x < 18446744073709551616) (s : Bool) (D : Nat) (N : Int) (hD : D < 9007199254740992) (hN1 : -1074 ≤ N) (hN2 : N ≤ 971) (hz : x = Ieee.double.word s (Fl.R0 D N)) (hle : Fl.R0 D N ≤ 9218868437227405312)
    (hform : ((x : Int) / 4503599627370496 % 2048 = 0 ∧ D = (x % 4503599627370496 : Nat) ∧ N = -1074) ∨ (0 < (x : Int) / 4503599627370496 % 2048 ∧ (x : Int) / 4503599627370496 % 2048 < 2047 ∧ (D : Int) = x % 4503599627370496 + 4503599627370496 ∧ N = (x : Int) / 4503599627370496 % 2048 - 1075)) :
    Calls Try.prog 40 #[.int .u64 (x : Int)] w fun e_ w' => ∃ b0_ : Nat, e_ = .returned (.float .f64 b0_) ∧ FB b0_ (canonF x : Nat) ∧ Below w.heap.size w w' := by
  have hc : canonF x = x := by rw [hz]; exact Fl.canonF_fin s hle
  rw [hc]
  have HZ := Aside0.mk hz
  have k3 := word_ge s (r := Fl.R0 D N) (by omega)
  rw [← hz] at k3
  have hfb : FB x (x : Nat) := by rw [hz]; exact FB_word s hle
  have HFB := Aside0.mk hfb
  have hng : ∀ W, (Op.unary .neg (.float .f64 (Fl.R0 D N))).run Try.prog W = .ok (.float .f64 (Ieee.double.word true (Fl.R0 D N))) W := fun W => by
    have := neg_run Try.prog W false (r := Fl.R0 D N) (by omega)
    rwa [Fl.word_false] at this
  have HNG := Aside0.mk hng
  have fa := float_at hD
  have d1 : ((x : Int) / 4503599627370496 % 2048 == 2047) = false := beq_eq_false_iff_ne.2 (by omega)
  have hsg : decide ((x : Int) ≥ 9223372036854775808) = s := sgn_dec k3
  have hend : Aside0 (FB (if s then Ieee.double.word true (Fl.R0 D N) else Fl.R0 D N) (x : Nat)) := ⟨by
    cases s
    · rw [if_neg (by decide), ← Fl.word_false (Fl.R0 D N), ← hz]
      exact hfb
    · rw [if_pos rfl, ← hz]
      exact hfb⟩
  have hN3 : Aside0 (∃ n, n = -N) := ⟨⟨_, rfl⟩⟩
  clear hz k3 hfb hle hng
  rcases hform with ⟨f1, f2, f3⟩ | ⟨f1, f1', f2, f3⟩
  · have d3 : decide ((x : Int) / 4503599627370496 % 2048 > 0) = false := decide_eq_false (by omega)
    have f2' : (x : Int) % 4503599627370496 = (D : Int) := by omega
    have hn : (1074 : Int) = -N := by omega
    have hNN : Aside0 ((1074 : Int) = -N) := ⟨hn⟩
    clear f2 f3
    go_enter Try.func40, Try.ntmps40
    go_wp2
    rw [hn]
    clear f1 f2' d1 d3 fa hn
    go_loopg [5, 7] 3000 (fun kq v5 v7 w' => ∃ (i : Int), v5 = .float .f64 (Fl.R0 D (-i)) ∧ v7 = .int .i64 i ∧ Aside0 (0 ≤ i ∧ -N - i < kq ∧ (i = 0 ∨ i ≤ -N)) ∧ Aside0 (w' = w))
    case atStart => exact ⟨0, by rfl, by rfl, ⟨by omega⟩, ⟨rfl⟩⟩
    case round =>
      obtain ⟨i, rfl, rfl, HK, HW⟩ := hrel
      have e1 := HW.out
      subst e1
      have hk := HK.out
      by_cases c1 : i < -N
      · cases gk with
        | zero => exact absurd c1 (by omega)
        | succ k2 =>
          have s1 : decide (i < -N) = true := decide_eq_true c1
          have m1 := mulR_at hD (x := -i) (k := -1) (by omega) (by omega) (by omega) (by omega) (by omega)
          rw [rung_m1] at m1
          have rw2 : IntKind.i64.wrap (i + 1) = i + 1 := by rw [IntKind.wrap_i64]; omega
          go_wp2
          go_roundg k2
          case measure => omega
          case rel => exact ⟨i + 1, by rw [show -(i + 1) = -i + -1 by omega], by first | rfl | simp [goInt, rw2], ⟨by omega⟩, ⟨rfl⟩⟩
      · have s1 : decide (i < -N) = false := decide_eq_false c1
        obtain ⟨x0, hx0⟩ : ∃ x0, x0 = -i := ⟨_, rfl⟩
        rw [← hx0]
        have hx1 : Aside0 (x0 = if N ≤ 0 then N else 0) := ⟨by split <;> omega⟩
        clear hx0
        have rwn : IntKind.i64.wrap (-(-N)) = N := by rw [IntKind.wrap_i64]; omega
        go_wp2
        go_loopg [5, 8] 3000 (fun kq v5 v8 w' => ∃ (j : Int), v5 = .float .f64 (Fl.R0 D (x0 + j)) ∧ v8 = .int .i64 j ∧ Aside0 (0 ≤ j ∧ N - j < kq ∧ (j = 0 ∨ j ≤ N)) ∧ Aside0 (w' = wr))
        case atStart => exact ⟨0, by rw [Int.add_zero], by rfl, ⟨by omega⟩, ⟨rfl⟩⟩
        case round =>
            clear HK HW hk c1 s1
            obtain ⟨j, rfl, rfl, HK, HW⟩ := hrel
            have e1 := HW.out
            subst e1
            have hk := HK.out
            have h1 := hx1.out
            by_cases c1 : j < N
            · cases gk with
              | zero => exact absurd c1 (by omega)
              | succ k2 =>
                have s1 : decide (j < N) = true := decide_eq_true c1
                have m1 := mulR_at hD (x := x0 + j) (k := 1) (by split at h1 <;> omega) (by split at h1 <;> omega) (by omega) (by omega) (by split at h1 <;> omega)
                rw [rung_1] at m1
                have rw2 : IntKind.i64.wrap (j + 1) = j + 1 := by rw [IntKind.wrap_i64]; omega
                clear h1
                go_wp2
                go_roundg k2
                case measure => omega
                case rel => exact ⟨j + 1, by rw [show x0 + (j + 1) = x0 + j + 1 by omega], by first | rfl | simp [goInt, rw2], ⟨by omega⟩, ⟨rfl⟩⟩
            · have s1 : decide (j < N) = false := decide_eq_false c1
              have hxN : x0 + j = N := by split at h1 <;> omega
              rw [hxN]
              clear h1 hxN
              have hng := HNG.out
              have he := hend.out
              cases s
              · go_wp2_with (first | (go_at_call 51; (with_reducible refine (ref_top _).mono ?_); rintro e' w1 ⟨rfl, rfl⟩))
                go_ret
                exact ⟨_, rfl, by (first | rw [if_pos trivial] at he | rw [if_pos rfl] at he | rw [if_neg (by decide)] at he); exact he, Below.refl _ _⟩
              · go_wp2_with (first | (go_at_call 51; (with_reducible refine (ref_top _).mono ?_); rintro e' w1 ⟨rfl, rfl⟩))
                go_ret
                exact ⟨_, rfl, by (first | rw [if_pos trivial] at he | rw [if_pos rfl] at he | rw [if_neg (by decide)] at he); exact he, Below.refl _ _⟩
  · have d3 : decide ((x : Int) / 4503599627370496 % 2048 > 0) = true := decide_eq_true f1
    have f2' : (x : Int) % 4503599627370496 + 4503599627370496 = (D : Int) := by omega
    have hw : IntKind.u64.wrap ((D : Int)) = (D : Int) := by rw [IntKind.wrap_u64]; omega
    have hn' : 1075 - (x : Int) / 4503599627370496 % 2048 = -N := by omega
    clear f2 f3
    go_enter Try.func40, Try.ntmps40
    go_wp2
    clear f1 f1' f2' d1 d3 fa hw hn'
    go_loopg [5, 7] 3000 (fun kq v5 v7 w' => ∃ (i : Int), v5 = .float .f64 (Fl.R0 D (-i)) ∧ v7 = .int .i64 i ∧ Aside0 (0 ≤ i ∧ -N - i < kq ∧ (i = 0 ∨ i ≤ -N)) ∧ Aside0 (w' = w))
    case atStart => exact ⟨0, by rfl, by rfl, ⟨by omega⟩, ⟨rfl⟩⟩
    case round =>
      obtain ⟨i, rfl, rfl, HK, HW⟩ := hrel
      have e1 := HW.out
      subst e1
      have hk := HK.out
      by_cases c1 : i < -N
      · cases gk with
        | zero => exact absurd c1 (by omega)
        | succ k2 =>
          have s1 : decide (i < -N) = true := decide_eq_true c1
          have m1 := mulR_at hD (x := -i) (k := -1) (by omega) (by omega) (by omega) (by omega) (by omega)
          rw [rung_m1] at m1
          have rw2 : IntKind.i64.wrap (i + 1) = i + 1 := by rw [IntKind.wrap_i64]; omega
          go_wp2
          go_roundg k2
          case measure => omega
          case rel => exact ⟨i + 1, by rw [show -(i + 1) = -i + -1 by omega], by first | rfl | simp [goInt, rw2], ⟨by omega⟩, ⟨rfl⟩⟩
      · have s1 : decide (i < -N) = false := decide_eq_false c1
        obtain ⟨x0, hx0⟩ : ∃ x0, x0 = -i := ⟨_, rfl⟩
        rw [← hx0]
        have hx1 : Aside0 (x0 = if N ≤ 0 then N else 0) := ⟨by split <;> omega⟩
        clear hx0
        have rwn : IntKind.i64.wrap (-(-N)) = N := by rw [IntKind.wrap_i64]; omega
        go_wp2
        go_loopg [5, 8] 3000 (fun kq v5 v8 w' => ∃ (j : Int), v5 = .float .f64 (Fl.R0 D (x0 + j)) ∧ v8 = .int .i64 j ∧ Aside0 (0 ≤ j ∧ N - j < kq ∧ (j = 0 ∨ j ≤ N)) ∧ Aside0 (w' = wr))
        case atStart => exact ⟨0, by rw [Int.add_zero], by rfl, ⟨by omega⟩, ⟨rfl⟩⟩
        case round =>
            clear HK HW hk c1 s1
            obtain ⟨j, rfl, rfl, HK, HW⟩ := hrel
            have e1 := HW.out
            subst e1
            have hk := HK.out
            have h1 := hx1.out
            by_cases c1 : j < N
            · cases gk with
              | zero => exact absurd c1 (by omega)
              | succ k2 =>
                have s1 : decide (j < N) = true := decide_eq_true c1
                have m1 := mulR_at hD (x := x0 + j) (k := 1) (by split at h1 <;> omega) (by split at h1 <;> omega) (by omega) (by omega) (by split at h1 <;> omega)
                rw [rung_1] at m1
                have rw2 : IntKind.i64.wrap (j + 1) = j + 1 := by rw [IntKind.wrap_i64]; omega
                clear h1
                go_wp2
                go_roundg k2
                case measure => omega
                case rel => exact ⟨j + 1, by rw [show x0 + (j + 1) = x0 + j + 1 by omega], by first | rfl | simp [goInt, rw2], ⟨by omega⟩, ⟨rfl⟩⟩
            · have s1 : decide (j < N) = false := decide_eq_false c1
              have hxN : x0 + j = N := by split at h1 <;> omega
              rw [hxN]
              clear h1 hxN
              have hng := HNG.out
              have he := hend.out
              cases s
              · go_wp2_with (first | (go_at_call 51; (with_reducible refine (ref_top _).mono ?_); rintro e' w1 ⟨rfl, rfl⟩))
                go_ret
                exact ⟨_, rfl, by (first | rw [if_pos trivial] at he | rw [if_pos rfl] at he | rw [if_neg (by decide)] at he); exact he, Below.refl _ _⟩
              · go_wp2_with (first | (go_at_call 51; (with_reducible refine (ref_top _).mono ?_); rintro e' w1 ⟨rfl, rfl⟩))
                go_ret
                exact ⟨_, rfl, by (first | rw [if_pos trivial] at he | rw [if_pos rfl] at he | rw [if_neg (by decide)] at he); exact he, Below.refl _ _⟩
end Go.Proofs.Ytfgnjndfnijjoaa.Print
end
section
namespace Go.Proofs.Ytfgnjndfnijjoaa.Print
open Go.RowKit Go.Proofs.YtfgnjndfnijjoaaW.PrintWords Go.Proofs.YtfgnjndfnijjoaaW.PrintLast Go.Proofs.YtfgnjndfnijjoaaW.PrintMore
attribute [local go_sem] max2_int min2_int max_two min_two max_three min_three max_four min_four
attribute [local go_sem] run_store_float
set_option linter.unusedVariables false
set_option linter.unusedSimpArgs false
mutual
def bonsairef21_Decode.l0 : Nat → ByteArray → Int → List (S30) → Int → ByteArray → Int → Int → Option ((List (S30)) × Int)
  | 0, _, _, _, _, _, _, _ => none
  | k + 1, x0, x7, x8, x9, x311000, x311001, x311002 => if x9 < (wrap64 (x7)) then ((bonsairef03_Reader_Num.f k x311000 x311001 x311002).bind fun bt319 => ((bonsairef03_Reader_Num.f k bt319.2.1 bt319.2.2.1 bt319.2.2.2).bind fun bt323 => ((bonsairef03_Reader_Num.f k bt323.2.1 bt323.2.2.1 bt323.2.2.2).bind fun bt327 => ((bonsairef03_Reader_Num.f k bt327.2.1 bt327.2.2.1 bt327.2.2.2).bind fun bt331 => (if bt331.2.2.2 = 0 then ((bonsairef04_Take.f k x0 bt331.2.2.1 64).bind fun bt335 => (if bt335.2.2 = 0 then ((bonsairef03_Reader_Fix.f k bt331.2.1 bt335.2.1 bt331.2.2.2).bind fun bt338 => (if bt338.2.2.2 = 0 then ((bonsairef01_Canon.f bt338.1).bind fun t342 => (if t342 = true then (if bt319.1 ≥ 9223372036854775808 then (bonsairef21_Decode.j1 k x0 x7 x8 x9 bt319.1 bt323.1 bt327.1 bt331.1 bt335.1 bt338.1 true bt338.2.1 bt338.2.2.1 bt338.2.2.2) else (if bt323.1 ≥ 9223372036854775808 then (bonsairef21_Decode.j1 k x0 x7 x8 x9 bt319.1 bt323.1 bt327.1 bt331.1 bt335.1 bt338.1 true bt338.2.1 bt338.2.2.1 bt338.2.2.2) else (if bt327.1 ≥ 9223372036854775808 then (bonsairef21_Decode.j1 k x0 x7 x8 x9 bt319.1 bt323.1 bt327.1 bt331.1 bt335.1 bt338.1 true bt338.2.1 bt338.2.2.1 bt338.2.2.2) else (bonsairef21_Decode.j1 k x0 x7 x8 x9 bt319.1 bt323.1 bt327.1 bt331.1 bt335.1 bt338.1 (decide (bt331.1 ≥ 9223372036854775808)) bt338.2.1 bt338.2.2.1 bt338.2.2.2)))) else (bonsairef21_Decode.j1 k x0 x7 x8 x9 bt319.1 bt323.1 bt327.1 bt331.1 bt335.1 bt338.1 true bt338.2.1 bt338.2.2.1 bt338.2.2.2))) else (some (([] : List (S30)), bt338.2.2.2)))) else (some (([] : List (S30)), bt335.2.2)))) else (some (([] : List (S30)), bt331.2.2.2))))))) else ((bonsairef03_Reader_Left.f x311000 x311001 x311002).bind fun bt315 => (if bt315.1 > 0 then (some (([] : List (S30)), 5)) else (some (x8, 0))))
def bonsairef21_Decode.j1 : Nat → ByteArray → Int → List (S30) → Int → Int → Int → Int → Int → ByteArray → Int → Bool → ByteArray → Int → Int → Option ((List (S30)) × Int)
  | 0, _, _, _, _, _, _, _, _, _, _, _, _, _, _ => none
  | k + 1, x0, x7, x8, x9, x10, x11, x12, x13, x14, x17, x114, x311000, x311001, x311002 => if x114 = true then (some (([] : List (S30)), 5)) else ((bonsairef01_Float.f x17).bind fun t343 => ((bonsairef13_One.f k (wrap64 (x10)) (wrap64 (x11)) (wrap64 (x12)) (wrap64 (x13)) x14 t343).bind fun t346 => (if t346 = true then (if x9 > 0 then (if 0 ≤ (wrap64 (x9 - 1)) then (if (wrap64 (x9 - 1)) < (x8.length : Int) then ((bonsairef02_Before.f ((rd_T30 x8 (wrap64 (x9 - 1))).f0.f0) ((rd_T30 x8 (wrap64 (x9 - 1))).f0.f1) (wrap64 (x10)) (wrap64 (x11))).bind fun t348 => (if t348 = true then (if x8.length < 2513169434916 then (bonsairef21_Decode.l0 k x0 x7 (x8 ++ [(⟨(⟨wrap64 (x10), wrap64 (x11)⟩ : S27), wrap64 (x12), wrap64 (x13), x14, t343⟩ : S30)]) (wrap64 (x9 + 1)) x311000 x311001 x311002) else (none)) else (some (([] : List (S30)), 12)))) else (none)) else (none)) else (if x8.length < 2513169434916 then (bonsairef21_Decode.l0 k x0 x7 (x8 ++ [(⟨(⟨wrap64 (x10), wrap64 (x11)⟩ : S27), wrap64 (x12), wrap64 (x13), x14, t343⟩ : S30)]) (wrap64 (x9 + 1)) x311000 x311001 x311002) else (none))) else (some (([] : List (S30)), 5)))))
end
end Go.Proofs.Ytfgnjndfnijjoaa.Print
end
namespace Go.Proofs.Ytfgnjndfnijjoaa.Print
end Go.Proofs.Ytfgnjndfnijjoaa.Print
namespace Go.Proofs.Ytfgnjndfnijjoaa.Print
end Go.Proofs.Ytfgnjndfnijjoaa.Print
namespace Go.Proofs.Ytfgnjndfnijjoaa.Print
end Go.Proofs.Ytfgnjndfnijjoaa.Print
namespace Go.Proofs.Ytfgnjndfnijjoaa.Print
end Go.Proofs.Ytfgnjndfnijjoaa.Print
section
namespace Go.Proofs.Ytfgnjndfnijjoaa.LibA
open Go.RowKit Go.Proofs.Ytfgnjndfnijjoaa.Print Go.Proofs.YtfgnjndfnijjoaaW.PrintWords Go.Proofs.YtfgnjndfnijjoaaW.PrintLast
def SgAt (s : ByteArray) (i m : Int) : Prop :=
  (sgH (bt s i)).2.2.2 = true ∧ m = 1 + (sgH (bt s i)).1 ∧ i + m ≤ s.size ∧ sgR s (sgH (bt s i)).1.toNat (i + 1) (sgH (bt s i)).2.1 (sgH (bt s i)).2.2.1 = true
theorem sgStep_some {s : ByteArray} {i m : Int} : sgStep s i = some m ↔ SgAt s i m := by
  unfold sgStep SgAt
  constructor
  · intro h
    split at h
    · cases h
    · split at h
      · cases h
      · split at h
        · cases h
          rename_i h1 h2 h3
          exact ⟨by simpa using h1, rfl, by omega, h3⟩
        · cases h
  · rintro ⟨h1, rfl, h3, h4⟩
    rw [if_neg (by simp [h1]), if_neg (by omega), if_pos h4]
theorem SgAt.pos {s : ByteArray} {i m : Int} (h : SgAt s i m) : 1 ≤ m ∧ m ≤ 4 ∧ i + m ≤ s.size := by
  have := sgH_rest (bt s i)
  obtain ⟨_, rfl, h3, _⟩ := h
  omega
theorem SgAt.det {s : ByteArray} {i m m' : Int} (h : SgAt s i m) (h' : SgAt s i m') : m = m' := by
  rw [h.2.1, h'.2.1]
inductive Ch (s : ByteArray) : Nat → Int → Int → Prop
  | nil (i : Int) : Ch s 0 i i
  | cons {n : Nat} {i m j : Int} (h : SgAt s i m) (t : Ch s n (i + m) j) : Ch s (n + 1) i j
theorem Ch.le {s : ByteArray} {n : Nat} {i j : Int} (h : Ch s n i j) : i + n ≤ j ∧ j ≤ i + 4 * n := by
  induction h with
  | nil => omega
  | cons h t ih => have := h.pos; omega
theorem Ch.size {s : ByteArray} {n : Nat} {i j : Int} (h : Ch s n i j) (hi : i ≤ s.size) : j ≤ s.size := by
  induction h with
  | nil => exact hi
  | cons h t ih => exact ih h.pos.2.2
theorem Ch.snoc {s : ByteArray} {n : Nat} {i j m : Int} (h : Ch s n i j) (hm : SgAt s j m) : Ch s (n + 1) i (j + m) := by
  induction h with
  | nil => exact .cons hm (.nil _)
  | cons h t ih => exact .cons h (ih hm)
theorem Ch.trans {s : ByteArray} {n n' : Nat} {i j k : Int} (h : Ch s n i j) (h' : Ch s n' j k) : Ch s (n + n') i k := by
  induction h with
  | nil => simpa using h'
  | cons h t ih => rw [show ∀ a b : Nat, a + 1 + b = (a + b) + 1 by omega]; exact .cons h (ih h')
theorem Ch.split {s : ByteArray} {n n' : Nat} {i j j' : Int} (h : Ch s n i j) (h' : Ch s n' i j') : (∃ c, n' = n + c ∧ Ch s c j j') ∨ (∃ c m, SgAt s j' m ∧ Ch s c (j' + m) j) := by
  induction h generalizing n' with
  | nil => exact .inl ⟨n', by omega, h'⟩
  | cons h t ih =>
    cases h' with
    | nil => exact .inr ⟨_, _, h, t⟩
    | cons h2 t2 =>
      have := h.det h2
      subst this
      rcases ih t2 with ⟨c, hc, hch⟩ | r
      · exact .inl ⟨c, by omega, hch⟩
      · exact .inr r
theorem sgL_ch (s : ByteArray) : ∀ (k : Nat) (n i : Int), 0 ≤ i → i ≤ s.size → (s.size : Int) - i < k → ∃ c : Nat, ∃ j : Int, sgL s k n i = (n + c, j) ∧ Ch s c i j ∧ j ≤ s.size ∧ ∀ m, ¬ SgAt s j m
  | 0, n, i, h0, h1, hk => by omega
  | k + 1, n, i, h0, h1, hk => by
    simp only [sgL]
    by_cases hi : i < (s.size : Int)
    · rw [if_pos hi]
      cases hs : sgStep s i with
      | none => exact ⟨0, i, by simp, .nil _, h1, fun m hm => by rw [sgStep_some.mpr hm] at hs; cases hs⟩
      | some m =>
        have hm := sgStep_some.mp hs
        have := hm.pos
        obtain ⟨c, j, h, hc, hj, hn⟩ := sgL_ch s k (n + 1) (i + m) (by omega) (by omega) (by omega)
        exact ⟨c + 1, j, by show sgL s k (n + 1) (i + m) = _; rw [h, show n + 1 + (c : Int) = n + ((c + 1 : Nat) : Int) by omega], .cons hm hc, hj, hn⟩
    · rw [if_neg hi]
      refine ⟨0, i, by simp, .nil _, h1, fun m hm => ?_⟩
      have := hm.pos
      omega
theorem signs_ch (s : ByteArray) : ∃ c : Nat, ∃ j : Int, sgL s (s.size + 1) 0 0 = ((c : Int), j) ∧ Ch s c 0 j ∧ 0 ≤ j ∧ j ≤ s.size ∧ ∀ m, ¬ SgAt s j m := by
  obtain ⟨c, j, h, hc, hj, hn⟩ := sgL_ch s (s.size + 1) 0 0 (by omega) (by omega) (by omega)
  exact ⟨c, j, by rw [h]; simp, hc, by have := hc.le; omega, hj, hn⟩
def Vld (s : ByteArray) : Prop := ∃ c, Ch s c 0 s.size
theorem vld_iff {s : ByteArray} {c : Nat} {j : Int} (h : Ch s c 0 j) (hn : ∀ m, ¬ SgAt s j m) (hj : j ≤ s.size) : Vld s ↔ j = s.size := by
  constructor
  · rintro ⟨c', h'⟩
    rcases h.split h' with ⟨c2, _, h2⟩ | ⟨c2, m, hm, h2⟩
    · cases h2 with
      | nil => rfl
      | cons hm _ => exact absurd hm (hn _)
    · have := hm.pos
      omega
  · rintro rfl
    exact ⟨c, h⟩
theorem bt_take {s : ByteArray} {n : Nat} (hn : n ≤ s.size) {d : Int} (h0 : 0 ≤ d) (h1 : d < n) : bt (s.extract 0 n) d = bt s d := by
  unfold bt
  rw [dif_pos (by rw [ByteArray.size_extract]; omega), dif_pos (by omega)]
  simp [ByteArray.getElem_extract]
theorem bt_drop {s : ByteArray} {a n : Nat} (hn : n ≤ s.size) {d : Int} (h0 : 0 ≤ d) (h1 : a + d < n) : bt (s.extract a n) d = bt s (a + d) := by
  unfold bt
  rw [dif_pos (by rw [ByteArray.size_extract]; omega), dif_pos (by omega)]
  have e : a + d.toNat = ((a : Int) + d).toNat := by omega
  simp only [ByteArray.getElem_extract, e]
theorem size_take {s : ByteArray} {n : Nat} (hn : n ≤ s.size) : (s.extract 0 n).size = n := by rw [ByteArray.size_extract]; omega
end Go.Proofs.Ytfgnjndfnijjoaa.LibA
end
section
namespace Go.Proofs.Ytfgnjndfnijjoaa.LibB
open Go.RowKit Go.Proofs.Ytfgnjndfnijjoaa.Print Go.Proofs.YtfgnjndfnijjoaaW.PrintWords Go.Proofs.YtfgnjndfnijjoaaW.PrintLast Go.Proofs.YtfgnjndfnijjoaaW.PrintMore Go.Proofs.Ytfgnjndfnijjoaa.LibA
theorem w64 {n : Int} (h0 : -9223372036854775808 ≤ n) (h1 : n ≤ 9223372036854775807) : wrap64 n = n := by unfold wrap64; omega
theorem sign_at {s : ByteArray} {i m : Int} (h0 : 0 ≤ i) (hs : s.size ≤ 140737488351232) (h : SgAt s i m) : bonsairef04_sign.f s i = some m := by
  have := h.pos
  unfold bonsairef04_sign.f
  rw [if_pos ⟨h0, by omega, by omega⟩, sgStep_some.mpr h]
  rfl
theorem sign_none {s : ByteArray} {i : Int} (h0 : 0 ≤ i) (hi : i < s.size) (hs : s.size ≤ 140737488351232) (h : ∀ m, ¬ SgAt s i m) : bonsairef04_sign.f s i = some 0 := by
  unfold bonsairef04_sign.f
  rw [if_pos ⟨h0, hi, by omega⟩]
  cases hh : sgStep s i with
  | none => rfl
  | some m => exact absurd (sgStep_some.mp hh) (h m)
theorem first_l {s : ByteArray} (hs : s.size ≤ 140737488351232) {c : Nat} {i j : Int} (h : Ch s c i j) : ∀ k, 0 ≤ i → j ≤ s.size → (∀ m, ¬ SgAt s j m) → bonsairef04_First.l0 (c + 1 + k) s i = some (if j < s.size then (j, true) else (0, false)) := by
  induction h with
  | nil i =>
    intro k h0 hj hn
    rw [show 0 + 1 + k = k + 1 by omega]
    simp only [bonsairef04_First.l0]
    by_cases hi : i < (s.size : Int)
    · rw [if_pos hi, if_pos hi, sign_none h0 hi hs hn]
      rfl
    · rw [if_neg hi, if_neg hi]
  | @cons n i m j h t ih =>
    intro k h0 hj hn
    have hp := h.pos
    rw [show n + 1 + 1 + k = (n + 1 + k) + 1 by omega]
    simp only [bonsairef04_First.l0]
    rw [if_pos (by omega), sign_at h0 hs h]
    simp only [Option.bind_some]
    rw [if_neg (by omega), w64 (by omega) (by omega)]
    exact ih k (by omega) hj hn
structure Tells (s : ByteArray) (c : Nat) (j : Int) : Prop where
  signs : word_signs.f s = some ((c : Int), j)
  ch : Ch s c 0 j
  lo : 0 ≤ j
  hi : j ≤ s.size
  stop : ∀ m, ¬ SgAt s j m
  few : (c : Int) ≤ j
theorem tells (s : ByteArray) (hs : s.size ≤ 140737488351232) : ∃ c j, Tells s c j := by
  obtain ⟨c, j, h, hc, h0, hj, hn⟩ := signs_ch s
  exact ⟨c, j, by unfold word_signs.f; rw [if_pos (by omega), h], hc, h0, hj, hn, by have := hc.le; omega⟩
theorem Tells.vld {s : ByteArray} {c : Nat} {j : Int} (t : Tells s c j) : Vld s ↔ j = s.size := vld_iff t.ch t.stop t.hi
noncomputable instance (s : ByteArray) : Decidable (Vld s) := Classical.propDecidable _
theorem Tells.wordValid {s : ByteArray} {c : Nat} {j : Int} (t : Tells s c j) : word_Valid.f s = some (decide (Vld s)) := by
  unfold word_Valid.f
  rw [t.signs]
  simp only [Option.bind_some]
  congr 1
  by_cases h : j = (s.size : Int)
  · simp [h, t.vld]
  · simp [h, t.vld]
theorem wordValid (s : ByteArray) (hs : s.size ≤ 140737488351232) : word_Valid.f s = some (decide (Vld s)) := by
  obtain ⟨c, j, t⟩ := tells s hs
  exact t.wordValid
theorem Tells.refValid {s : ByteArray} {c : Nat} {j : Int} (t : Tells s c j) (hs : s.size ≤ 140737488351232) (k : Nat) : bonsairef04_Valid.f (c + 1 + k) s = word_Valid.f s := by
  unfold bonsairef04_Valid.f
  rw [show bonsairef04_First.f (c + 1 + k) s = some (if j < s.size then (j, true) else (0, false)) from first_l hs t.ch k (by omega) t.hi t.stop, t.wordValid]
  simp only [Option.bind_some]
  congr 1
  have := t.hi
  by_cases h : j < (s.size : Int)
  · rw [if_pos h]; simp [t.vld]; omega
  · rw [if_neg h]; simp [t.vld]; omega
end Go.Proofs.Ytfgnjndfnijjoaa.LibB
end
section
namespace Go.Proofs.Ytfgnjndfnijjoaa.LibC
open Go.RowKit Go.Proofs.Ytfgnjndfnijjoaa.Print Go.Proofs.YtfgnjndfnijjoaaW.PrintWords Go.Proofs.YtfgnjndfnijjoaaW.PrintLast Go.Proofs.YtfgnjndfnijjoaaW.PrintMore Go.Proofs.Ytfgnjndfnijjoaa.LibA Go.Proofs.Ytfgnjndfnijjoaa.LibB
theorem or128 (a : Int) (h0 : 0 ≤ a) (h1 : a < 256) : bits .or .u8 a 128 = a % 128 + 128 := by
  obtain ⟨n, rfl⟩ := Int.eq_ofNat_of_zero_le h0
  have key : ∀ m : Fin 256, bits .or .u8 ((m.val : Nat) : Int) 128 = ((m.val : Nat) : Int) % 128 + 128 := by decide +kernel
  exact key ⟨n, by omega⟩
def putL : Nat → Int → List Int
  | 0, x => [x]
  | d + 1, x => if x ≥ 128 then (x % 128 + 128) :: putL d (x / 128) else [x]
theorem put_l : ∀ (d k : Nat) (x : Int) (acc : List Int), 0 ≤ x → x < 128 ^ (d + 1) → x < 18446744073709551616 → acc.length + d < 140737488355328 →
    pack_Put.l0 (d + 1 + k) x acc = some (strOfNums (acc ++ putL d x)) ∧ bonsairef03_Put.l0 (d + 1 + k) x acc = some (strOfNums (acc ++ putL d x))
  | 0, k, x, acc, h0, h1, h2, h3 => by
    rw [show 0 + 1 + k = k + 1 by omega]
    simp only [pack_Put.l0, bonsairef03_Put.l0, putL]
    rw [if_neg (by omega), if_pos (by omega), if_neg (by omega), show x % 256 = x by omega]
    exact ⟨rfl, rfl⟩
  | d + 1, k, x, acc, h0, h1, h2, h3 => by
    rw [show d + 1 + 1 + k = (d + 1 + k) + 1 by omega]
    simp only [pack_Put.l0, bonsairef03_Put.l0, putL]
    by_cases hx : x ≥ 128
    · have hd : x / 128 < 128 ^ (d + 1) := by
        rw [Int.pow_succ] at h1
        exact Int.ediv_lt_of_lt_mul (by omega) h1
      obtain ⟨e1, e2⟩ := put_l d k (x / 128) (acc ++ [x % 128 + 128]) (by omega) hd (by omega) (by simp; omega)
      rw [if_pos hx, if_pos (by omega), if_pos hx, if_pos (by omega), if_pos (by omega)]
      rw [or128 (x % 256) (by omega) (by omega), show x % 256 % 128 = x % 128 by omega, e1]
      rw [Int.tdiv_eq_ediv_of_nonneg h0, Int.tmod_eq_emod_of_nonneg h0, pack_wraps_u64 _ (by omega) (by omega), show (x % 128 + 128) % 256 = x % 128 + 128 by omega, e2]
      simp
    · rw [if_neg hx, if_pos (by omega), if_neg hx, if_neg (by omega), show x % 256 = x by omega]
      exact ⟨rfl, rfl⟩
theorem put_some (x : Int) (h0 : 0 ≤ x) (h1 : x < 18446744073709551616) (k : Nat) (hk : 10 ≤ k) : pack_Put.f k x = some (strOfNums (putL 9 x)) ∧ bonsairef03_Put.f k x = some (strOfNums (putL 9 x)) := by
  have := put_l 9 (k - 10) x [] h0 (by omega) h1 (by simp)
  rw [show 9 + 1 + (k - 10) = k by omega] at this
  simpa [pack_Put.f, bonsairef03_Put.f] using this
theorem putL_length : ∀ (d : Nat) (x : Int), 1 ≤ (putL d x).length ∧ (putL d x).length ≤ d + 1
  | 0, x => by simp [putL]
  | d + 1, x => by
    have := putL_length d (x / 128)
    unfold putL
    split <;> simp <;> omega
theorem wordPut (s : ByteArray) (hs : s.size ≤ 140737488351232) (k : Nat) (hk : 10 ≤ k) : word_Put.f k s = some (strOfNums (putL 9 s.size) ++ s) ∧ bonsairef04_Put.f k s = word_Put.f k s := by
  have h := put_some (s.size : Int) (by omega) (by omega) k hk
  have hw := pack_wraps_u64 (s.size : Int) (by omega) (by omega)
  have hl := putL_length 9 (s.size : Int)
  have hz : (strOfNums (putL 9 (s.size : Int))).size = (putL 9 (s.size : Int)).length := strOfNums_size _
  unfold word_Put.f bonsairef04_Put.f
  rw [hw, h.1, h.2]
  simp only [Option.bind_some]
  rw [if_pos (by omega)]
  exact ⟨rfl, trivial⟩
end Go.Proofs.Ytfgnjndfnijjoaa.LibC
end
section
namespace Go.Proofs.Ytfgnjndfnijjoaa.LibD
open Go.RowKit Go.Proofs.Ytfgnjndfnijjoaa.Print Go.Proofs.YtfgnjndfnijjoaaW.PrintWords Go.Proofs.YtfgnjndfnijjoaaW.PrintLast Go.Proofs.YtfgnjndfnijjoaaW.PrintMore Go.Proofs.Ytfgnjndfnijjoaa.LibA Go.Proofs.Ytfgnjndfnijjoaa.LibB Go.Proofs.Ytfgnjndfnijjoaa.LibC
def numRef (R : Int × Int × Int) (S : ByteArray) (at_ : Int) : Int × ByteArray × Int × Int := if R.1 = 0 then (R.2.1, S, at_ + R.2.2, 0) else (0, S, at_, R.1)
theorem num_l (S s : ByteArray) (a : Int) (ha : 0 ≤ a) (hS : S.size ≤ 140737488351232) (hs : (S.size : Int) = a + s.size) (hb : ∀ d : Int, 0 ≤ d → d < s.size → bt S (a + d) = bt s d) :
    ∀ (d : Nat) (i n : Int) (k : Nat), i + (d + 1 : Nat) = 10 → 0 ≤ i → i ≤ s.size → 0 ≤ n → n < 128 ^ i.toNat →
      bonsairef03_Reader_Num.l0 (3 * (d + 1) + k) n (128 ^ i.toNat) i S a 0 = some (numRef (numL s (d + 1) i n) S a)
  | d, i, n, k, hd, hi0, his, hn0, hn => by
    rw [show 3 * (d + 1) + k = (((3 * d + k) + 1) + 1) + 1 by omega]
    simp only [bonsairef03_Reader_Num.l0, bonsairef03_Reader_Num.j1, numL]
    rw [if_pos (by omega), w64 (show -9223372036854775808 ≤ a + i by omega) (by omega)]
    simp only [BEq.rfl, if_true]
    by_cases hlt : i < (s.size : Int)
    · rw [if_neg (by omega), if_pos (by omega), if_pos (by omega), if_pos hlt, hb i hi0 hlt]
      have hr := bt_range s i
      rw [pack_wraps_u64 _ hr.1 (by omega)]
      by_cases hok : (i < 9 ∨ bt s i ≤ 1) ∧ (i = 0 ∨ bt s i ≠ 0)
      · rw [if_pos hok]
        have hj : ∀ X : Bool, X = false → (bonsairef03_Reader_Num.j2 (3 * d + k + 1) n (128 ^ i.toNat) i (bt s i) X S a 0 = some (numRef (if bt s i < 128 then (0, n + bt s i % 128 * 128 ^ i.toNat, i + 1) else numL s d (i + 1) (n + bt s i % 128 * 128 ^ i.toNat)) S a)) := by
          rintro X rfl
          simp only [bonsairef03_Reader_Num.j2, Bool.false_eq_true, if_false]
          obtain ⟨_, h64⟩ := num_step i (bt s i) n hi0 (by omega) hr.1 hr.2 hok.1 hn0 hn
          have hm0 : 0 ≤ bt s i % 128 * 128 ^ i.toNat := Int.mul_nonneg (by omega) (by have := (pack_pow9 i (by omega)).2; omega)
          rw [Int.tmod_eq_emod_of_nonneg hr.1, pack_wraps_u64 (bt s i % 128 * 128 ^ i.toNat) hm0 (by omega), pack_wraps_u64 (n + _) (by omega) h64]
          by_cases hb1 : bt s i < 128
          · rw [if_pos hb1, if_pos hb1, w64 (show -9223372036854775808 ≤ a + i by omega) (by omega), w64 (show -9223372036854775808 ≤ a + i + 1 by omega) (by omega)]
            simp only [numRef, if_true]
            congr 4
            omega
          · rw [if_neg hb1, if_neg hb1]
            have h9 : i < 9 := by omega
            cases d with
            | zero => omega
            | succ d =>
              have hp : bt s i % 128 * 128 ^ i.toNat ≤ 127 * 128 ^ i.toNat := Int.mul_le_mul_of_nonneg_right (by omega) (by have := (pack_pow9 i (by omega)).2; omega)
              have he : (128 : Int) ^ (i + 1).toNat = 128 ^ i.toNat * 128 := by rw [show (i + 1).toNat = i.toNat + 1 by omega, Int.pow_succ]
              have h8 := pack_pow8 i (by omega)
              have hq := (pack_pow9 i (by omega)).2
              rw [pack_wraps_u64 (128 ^ i.toNat * 128) (by omega) (by omega), w64 (by omega) (by omega), ← he]
              exact num_l S s a ha hS hs hb d (i + 1) _ k (by omega) (by omega) (by omega) (by omega) (by omega)
        by_cases h9 : i = 9
        · rw [if_pos h9, if_neg (by omega), if_pos (by omega)]
          exact hj _ (by simp; omega)
        · rw [if_neg h9]
          by_cases h0 : i > 0
          · rw [if_pos h0]
            exact hj _ (by simp; omega)
          · rw [if_neg h0]
            exact hj _ rfl
      · rw [if_neg hok]
        have hj : ∀ X : Bool, X = true → bonsairef03_Reader_Num.j2 (3 * d + k + 1) n (128 ^ i.toNat) i (bt s i) X S a 0 = some (numRef (3, 0, 0) S a) := by
          rintro X rfl
          simp only [bonsairef03_Reader_Num.j2, if_true, numRef]
          rfl
        by_cases h9 : i = 9
        · rw [if_pos h9]
          by_cases hb1 : bt s i > 1
          · rw [if_pos hb1]
            exact hj _ rfl
          · rw [if_neg hb1, if_pos (by omega)]
            exact hj _ (by simp; omega)
        · rw [if_neg h9, if_pos (by omega)]
          exact hj _ (by simp; omega)
    · rw [if_pos (by omega), if_neg hlt]
      rfl
structure Sim (S : ByteArray) (a : Int) (r : ByteArray) : Prop where
  big : S.size ≤ 140737488351232
  lo : 0 ≤ a
  size : (S.size : Int) = a + r.size
  rest : r = S.extract a.toNat S.size
theorem Sim.byte {S r : ByteArray} {a : Int} (h : Sim S a r) (d : Int) (h0 : 0 ≤ d) (h1 : d < r.size) : bt S (a + d) = bt r d := by
  have := h.size
  have := h.lo
  rw [h.rest, bt_drop (Nat.le_refl _) h0 (by omega)]
  congr 1
  omega
theorem Sim.begin (S : ByteArray) (hS : S.size ≤ 140737488351232) (a : Int) (h0 : 0 ≤ a) (h1 : a ≤ S.size) : Sim S a (S.extract a.toNat S.size) :=
  ⟨hS, h0, by rw [ByteArray.size_extract]; omega, rfl⟩
theorem Sim.go {S r : ByteArray} {a : Int} (h : Sim S a r) (n : Int) (h0 : 0 ≤ n) (h1 : n ≤ r.size) : Sim S (a + n) (r.extract n.toNat r.size) := by
  have := h.size
  have := h.lo
  refine ⟨h.big, by omega, by rw [ByteArray.size_extract]; omega, ?_⟩
  conv => lhs; rw [h.rest]
  rw [ByteArray.extract_extract]
  congr 1
  · omega
  · rw [ByteArray.size_extract]; omega
theorem numL_is (s : ByteArray) : ∀ (d : Nat) (i n : Int), i + (d : Nat) = 10 → 0 ≤ i → i ≤ s.size → 0 ≤ n → n < 128 ^ i.toNat →
    ((numL s d i n).1 = 0 → 0 ≤ (numL s d i n).2.1 ∧ (numL s d i n).2.1 < 18446744073709551616 ∧ i < (numL s d i n).2.2 ∧ (numL s d i n).2.2 ≤ s.size) ∧ ((numL s d i n).1 = 0 ∨ (numL s d i n).1 = 2 ∨ (numL s d i n).1 = 3)
  | 0, i, n, _, _, _, _, _ => by simp [numL]
  | d + 1, i, n, hd, hi0, his, hn0, hn => by
    have hr := bt_range s i
    simp only [numL]
    by_cases hlt : i < (s.size : Int)
    · rw [if_pos hlt]
      by_cases hok : (i < 9 ∨ bt s i ≤ 1) ∧ (i = 0 ∨ bt s i ≠ 0)
      · rw [if_pos hok]
        obtain ⟨_, h64⟩ := num_step i (bt s i) n hi0 (by omega) hr.1 hr.2 hok.1 hn0 hn
        have hm0 : 0 ≤ bt s i % 128 * 128 ^ i.toNat := Int.mul_nonneg (by omega) (by have := (pack_pow9 i (by omega)).2; omega)
        by_cases hb1 : bt s i < 128
        · rw [if_pos hb1]
          exact ⟨fun _ => ⟨by show 0 ≤ n + _; omega, by show n + _ < _; omega, by show i < i + 1; omega, by show i + 1 ≤ _; omega⟩, .inl rfl⟩
        · rw [if_neg hb1]
          have hp : bt s i % 128 * 128 ^ i.toNat ≤ 127 * 128 ^ i.toNat := Int.mul_le_mul_of_nonneg_right (by omega) (by have := (pack_pow9 i (by omega)).2; omega)
          have he : (128 : Int) ^ (i + 1).toNat = 128 ^ i.toNat * 128 := by rw [show (i + 1).toNat = i.toNat + 1 by omega, Int.pow_succ]
          have := numL_is s d (i + 1) (n + bt s i % 128 * 128 ^ i.toNat) (by omega) (by omega) (by omega) (by omega) (by omega)
          exact ⟨fun h => by have := this.1 h; omega, this.2⟩
      · rw [if_neg hok]
        exact ⟨(fun h => by cases h), .inr (.inr rfl)⟩
    · rw [if_neg hlt]
      exact ⟨(fun h => by cases h), .inr (.inl rfl)⟩
theorem Sim.num {S r : ByteArray} {a : Int} (h : Sim S a r) (e : Int) : ∃ (v : Int) (r' : ByteArray) (e' a' : Int), pack_Reader_Num.f r e = some (v, r', e') ∧ (∀ k, 30 ≤ k → bonsairef03_Reader_Num.f k S a e = some (v, S, a', e')) ∧ Sim S a' r' ∧ 0 ≤ v ∧ v < 18446744073709551616 ∧
    (e ≠ 0 → v = 0 ∧ e' = e ∧ r' = r ∧ a' = a) ∧ (e = 0 → e' = 0 ∨ e' = 2 ∨ e' = 3) ∧ (e' = 0 → a < a') ∧ (e' ≠ 0 → v = 0 ∧ r' = r ∧ a' = a) := by
  have hsz := h.size
  have hlo := h.lo
  have hbig := h.big
  have hrs : r.size ≤ 9223372036854775000 := by omega
  by_cases he : e = 0
  · subst he
    have hk : ∀ k, 30 ≤ k → bonsairef03_Reader_Num.f k S a 0 = some (numRef (numL r 10 0 0) S a) := fun k hk => by
      have := num_l S r a h.lo h.big h.size h.byte 9 0 0 (k - 30) (by omega) (by omega) (by omega) (by omega) (by decide)
      rw [show 3 * (9 + 1) + (k - 30) = k by omega] at this
      exact this
    obtain ⟨hn1, hn2⟩ := numL_is r 10 0 0 (by omega) (by omega) (by omega) (by omega) (by decide)
    unfold pack_Reader_Num.f
    rw [if_pos hrs, if_pos rfl]
    by_cases hR : (numL r 10 0 0).1 = 0
    · have hn := hn1 hR
      refine ⟨_, _, _, a + (numL r 10 0 0).2.2, by rw [if_pos hR], fun k h' => by rw [hk k h']; unfold numRef; rw [if_pos hR], h.go _ (by omega) (by omega), hn.1, hn.2.1, fun h => absurd rfl h, fun _ => .inl rfl, fun _ => by omega, fun h => absurd rfl h⟩
    · refine ⟨_, _, _, a, by rw [if_neg hR], fun k h' => by rw [hk k h']; unfold numRef; rw [if_neg hR], h, by omega, by omega, fun h => absurd rfl h, fun _ => by omega, fun h => absurd h hR, fun _ => ⟨rfl, rfl, rfl⟩⟩
  · refine ⟨0, r, e, a, by unfold pack_Reader_Num.f; rw [if_pos hrs, if_neg he], fun k hk => ?_, h, by omega, by omega, fun _ => ⟨rfl, rfl, rfl, rfl⟩, fun h => absurd h he, fun h => absurd h he, fun _ => ⟨rfl, rfl, rfl⟩⟩
    obtain ⟨k, rfl⟩ : ∃ m, k = m + 2 := ⟨k - 2, by omega⟩
    unfold bonsairef03_Reader_Num.f
    simp only [bonsairef03_Reader_Num.l0, bonsairef03_Reader_Num.j1]
    rw [if_pos (by omega), if_neg (by simpa using he)]
theorem Sim.left {S r : ByteArray} {a : Int} (h : Sim S a r) (e : Int) : pack_Reader_Left.f r e = some ((r.size : Int), r, e) ∧ bonsairef03_Reader_Left.f S a e = some ((r.size : Int), S, a, e) := by
  have := h.size
  have := h.lo
  have := h.big
  exact ⟨rfl, by unfold bonsairef03_Reader_Left.f; rw [w64 (by omega) (by omega)]; congr 2; omega⟩
theorem Sim.take {S r : ByteArray} {a : Int} (h : Sim S a r) (n : Int) (h0 : 0 ≤ n) (h1 : n ≤ r.size) : pack_Reader_Take.f r 0 n = some (r.extract 0 n.toNat, r.extract n.toNat r.size, 0) ∧
    (∀ k, 1 ≤ k → bonsairef03_Reader_Take.f k S a 0 n = some (r.extract 0 n.toNat, S, a + n, 0)) := by
  have hsz := h.size
  have hlo := h.lo
  have hbig := h.big
  refine ⟨by unfold pack_Reader_Take.f; rw [if_pos rfl, if_pos ⟨h0, h1⟩], fun k hk => ?_⟩
  obtain ⟨k, rfl⟩ : ∃ m, k = m + 1 := ⟨k - 1, by omega⟩
  unfold bonsairef03_Reader_Take.f
  rw [if_pos rfl, if_neg (by omega), w64 (show -9223372036854775808 ≤ (S.size : Int) - a by omega) (by omega)]
  simp only [bonsairef03_Reader_Take.j0]
  rw [if_neg (by simp; omega), if_pos trivial, w64 (show -9223372036854775808 ≤ a + n by omega) (by omega), w64 (show -9223372036854775808 ≤ a + n - n by omega) (by omega), if_pos (by omega), if_pos (by omega), if_pos (by omega)]
  congr 2
  conv => rhs; rw [h.rest]
  rw [ByteArray.extract_extract]
  congr 1
  · omega
  · omega
end Go.Proofs.Ytfgnjndfnijjoaa.LibD
end
section
namespace Go.Proofs.Ytfgnjndfnijjoaa.LibE
open Go.RowKit Go.Proofs.Ytfgnjndfnijjoaa.Print Go.Proofs.YtfgnjndfnijjoaaW.PrintWords Go.Proofs.YtfgnjndfnijjoaaW.PrintLast Go.Proofs.YtfgnjndfnijjoaaW.PrintMore Go.Proofs.Ytfgnjndfnijjoaa.LibA Go.Proofs.Ytfgnjndfnijjoaa.LibB Go.Proofs.Ytfgnjndfnijjoaa.LibC Go.Proofs.Ytfgnjndfnijjoaa.LibD
def noText : ByteArray := ⟨#[]⟩
theorem refValid (s : ByteArray) (hs : s.size ≤ 140737488351232) (k : Nat) (hk : s.size + 1 ≤ k) : bonsairef04_Valid.f k s = some (decide (Vld s)) := by
  obtain ⟨c, j, t⟩ := tells s hs
  have hc : c ≤ s.size := by have := t.few; have := t.hi; omega
  have := t.refValid hs (k - (c + 1))
  rw [show c + 1 + (k - (c + 1)) = k by omega, t.wordValid] at this
  exact this
theorem take_both (s : ByteArray) (hs : s.size ≤ 140737488351232) (a most : Int) (hm0 : -9223372036854775808 ≤ most) (hm1 : most ≤ 9223372036854775807) :
    ∃ (t : ByteArray) (b e : Int), (∀ k, s.size + 60 ≤ k → word_Take.f k s a most = some (t, b, e) ∧ bonsairef04_Take.f k s a most = some (t, b, e)) ∧
      (e ≠ 0 → t = noText ∧ b = 0) ∧
      (e = 0 → 0 ≤ a ∧ ∃ v n : Int, Vld t ∧ 0 ≤ n ∧ n ≤ most ∧ (t.size : Int) = n ∧ a < b - n ∧ b ≤ s.size ∧ t = s.extract (b - n).toNat b.toNat ∧ pack_Reader_Num.f (s.extract a.toNat s.size) 0 = some (n, s.extract v.toNat s.size, 0) ∧ v = b - n) := by
  by_cases ha : a < 0 ∨ (s.size : Int) < a
  · refine ⟨noText, 0, 1, fun k hk => ?_, fun _ => ⟨rfl, rfl⟩, fun h => absurd h (by decide)⟩
    obtain ⟨k, rfl⟩ : ∃ m, k = m + 1 := ⟨k - 1, by omega⟩
    unfold word_Take.f bonsairef04_Take.f
    by_cases h : a < 0
    · rw [if_pos h, if_pos h]
      simp only [word_Take.j0, bonsairef04_Take.j0, if_true]
      exact ⟨rfl, rfl⟩
    · rw [if_neg h, if_neg h, decide_eq_true (show a > (s.size : Int) by omega)]
      simp only [word_Take.j0, bonsairef04_Take.j0, if_true]
      exact ⟨rfl, rfl⟩
  have hS := Sim.begin s hs a (by omega) (by omega)
  obtain ⟨v, r', e', a', hp, hr, hS', hv0, hv1, _, he2, he3, he4⟩ := hS.num 0
  have hfin : ∀ k, 2 ≤ k → ∃ m, k = m + 2 := fun k hk => ⟨k - 2, by omega⟩
  have start : ∀ k, word_Take.f (k + 2) s a most = word_Take.j0 (k + 2) s a most false ∧ bonsairef04_Take.f (k + 2) s a most = bonsairef04_Take.j0 (k + 2) s a most false := fun k => by
    unfold word_Take.f bonsairef04_Take.f
    rw [if_neg (by omega), if_neg (by omega), decide_eq_false (show ¬ a > (s.size : Int) by omega)]
    exact ⟨rfl, rfl⟩
  by_cases he : e' = 0
  · subst he
    have hsz' := hS'.size
    have hlo' := hS'.lo
    have hr's : r'.size ≤ s.size := by omega
    by_cases hbig : most < 0 ∨ v > IntKind.u64.wrap most
    · refine ⟨noText, 0, 10, fun k hk => ?_, fun _ => ⟨rfl, rfl⟩, fun h => absurd h (by decide)⟩
      obtain ⟨k, rfl⟩ := hfin k (by omega)
      rw [(start k).1, (start k).2]
      simp only [word_Take.j0, bonsairef04_Take.j0, word_Take.j1, bonsairef04_Take.j1, Bool.false_eq_true, if_false, pack_New.f, Option.bind_some]
      rw [if_pos (by omega), if_pos (by omega), hp, hr (k + 1) (by omega)]
      simp only [Option.bind_some, pack_Reader_Err.f, if_true]
      by_cases hm : most < 0
      · rw [if_pos hm, if_pos hm]; exact ⟨rfl, rfl⟩
      · rw [if_neg hm, if_neg hm, decide_eq_true (show v > IntKind.u64.wrap most by omega)]; simp only [if_true]; exact ⟨rfl, rfl⟩
    · have hw : IntKind.u64.wrap most = most := pack_wraps_u64 most (by omega) (by omega)
      have hl := hS'.left 0
      have hwl : IntKind.u64.wrap (r'.size : Int) = r'.size := pack_wraps_u64 _ (by omega) (by omega)
      have go : ∀ k, word_Take.f (k + 2) s a most = word_Take.j1 (k + 1) s v false r' 0 ∧ (30 ≤ k → bonsairef04_Take.f (k + 2) s a most = bonsairef04_Take.j1 (k + 1) v false s a' 0) := fun k => by
        rw [(start k).1, (start k).2]
        simp only [word_Take.j0, bonsairef04_Take.j0, Bool.false_eq_true, if_false, pack_New.f, Option.bind_some]
        rw [if_pos (by omega), if_pos (by omega), hp]
        simp only [Option.bind_some, pack_Reader_Err.f, if_true]
        rw [if_neg (show ¬ most < 0 by omega), decide_eq_false (show ¬ v > IntKind.u64.wrap most by omega)]
        refine ⟨rfl, fun h => ?_⟩
        rw [hr (k + 1) (by omega)]
        simp only [Option.bind_some, if_true]
        rw [if_neg (show ¬ most < 0 by omega), decide_eq_false (show ¬ v > IntKind.u64.wrap most by omega)]
      by_cases hcut : v > (r'.size : Int)
      · refine ⟨noText, 0, 2, fun k hk => ?_, fun _ => ⟨rfl, rfl⟩, fun h => absurd h (by decide)⟩
        obtain ⟨k, rfl⟩ := hfin k (by omega)
        rw [(go k).1, (go k).2 (by omega)]
        simp only [word_Take.j1, bonsairef04_Take.j1, Bool.false_eq_true, if_false]
        rw [hl.1, hl.2]
        simp only [Option.bind_some]
        rw [hwl, if_pos hcut, if_pos hcut]
        exact ⟨rfl, rfl⟩
      · obtain ⟨t1, t2⟩ := hS'.take v hv0 (by omega)
        have hS2 := hS'.go v hv0 (by omega)
        have hl2 := hS2.left 0
        have hts : (r'.extract 0 v.toNat).size = v.toNat := size_take (by omega)
        have hvs : v.toNat ≤ s.size := by omega
        have hwv : word_Valid.f (r'.extract 0 v.toNat) = some (decide (Vld (r'.extract 0 v.toNat))) := wordValid _ (by omega)
        have hrv : ∀ k, s.size + 1 ≤ k → bonsairef04_Valid.f k (r'.extract 0 v.toNat) = some (decide (Vld (r'.extract 0 v.toNat))) := fun k hk => refValid _ (by omega) k (by omega)
        have go2 : ∀ k, s.size + 30 ≤ k → word_Take.f (k + 2) s a most = (if Vld (r'.extract 0 v.toNat) then some (r'.extract 0 v.toNat, a' + v, 0) else some (noText, 0, 4)) ∧ bonsairef04_Take.f (k + 2) s a most = (if Vld (r'.extract 0 v.toNat) then some (r'.extract 0 v.toNat, a' + v, 0) else some (noText, 0, 4)) := fun k hk => by
          rw [(go k).1, (go k).2 (by omega)]
          simp only [word_Take.j1, bonsairef04_Take.j1, Bool.false_eq_true, if_false]
          rw [hl.1, hl.2]
          simp only [Option.bind_some]
          rw [hwl, if_neg hcut, if_neg hcut, w64 (n := v) (by omega) (by omega), t1, t2 k (by omega)]
          simp only [Option.bind_some]
          rw [hwv, hrv k (by omega)]
          simp only [Option.bind_some, decide_eq_true_eq]
          rw [hl2.1]
          simp only [Option.bind_some]
          have := hS2.size
          rw [w64 (n := (s.size : Int) - _) (by omega) (by omega), show (s.size : Int) - ((r'.extract v.toNat r'.size).size : Int) = a' + v by omega]
          exact ⟨rfl, rfl⟩
        by_cases hV : Vld (r'.extract 0 v.toNat)
        · refine ⟨r'.extract 0 v.toNat, a' + v, 0, fun k hk => ?_, fun h => absurd rfl h, fun _ => ⟨by omega, a', v, hV, hv0, by omega, by rw [hts]; omega, by have := he3 rfl; omega, by omega, ?_, ?_, by omega⟩⟩
          · obtain ⟨k, rfl⟩ := hfin k (by omega)
            have := go2 k (by omega)
            rw [if_pos hV] at this
            exact this
          · conv => lhs; rw [hS'.rest]
            rw [ByteArray.extract_extract]
            congr 1
            · omega
            · omega
          · rw [hp, hS'.rest]
        · refine ⟨noText, 0, 4, fun k hk => ?_, fun _ => ⟨rfl, rfl⟩, fun h => absurd h (by decide)⟩
          obtain ⟨k, rfl⟩ := hfin k (by omega)
          have := go2 k (by omega)
          rw [if_neg hV] at this
          exact this
  · refine ⟨noText, 0, e', fun k hk => ?_, fun _ => ⟨rfl, rfl⟩, fun h => absurd h he⟩
    obtain ⟨k, rfl⟩ := hfin k (by omega)
    rw [(start k).1, (start k).2]
    simp only [word_Take.j0, bonsairef04_Take.j0, Bool.false_eq_true, if_false, pack_New.f, Option.bind_some]
    rw [if_pos (by omega), if_pos (by omega), hp, hr (k + 1) (by omega)]
    simp only [Option.bind_some, pack_Reader_Err.f]
    rw [if_neg he, if_neg he]
    exact ⟨rfl, rfl⟩
end Go.Proofs.Ytfgnjndfnijjoaa.LibE
end
section
namespace Go.Proofs.Ytfgnjndfnijjoaa.LibF
open Go.RowKit Go.Proofs.Ytfgnjndfnijjoaa.Print Go.Proofs.YtfgnjndfnijjoaaW.PrintWords Go.Proofs.YtfgnjndfnijjoaaW.PrintLast Go.Proofs.YtfgnjndfnijjoaaW.PrintMore Go.Proofs.Ytfgnjndfnijjoaa.LibA Go.Proofs.Ytfgnjndfnijjoaa.LibB
theorem bt_app_left {s t : ByteArray} {d : Int} (h0 : 0 ≤ d) (h1 : d < s.size) : bt (s ++ t) d = bt s d := by
  unfold bt
  rw [dif_pos (by rw [ByteArray.size_append]; omega), dif_pos (by omega)]
  rw [ByteArray.getElem_append_left (by omega)]
theorem bt_app_right {s t : ByteArray} {d : Int} (h0 : 0 ≤ d) (h1 : d < t.size) : bt (s ++ t) (s.size + d) = bt t d := by
  unfold bt
  rw [dif_pos (by rw [ByteArray.size_append]; omega), dif_pos (by omega)]
  rw [ByteArray.getElem_append_right (by omega)]
  have e : ((s.size : Int) + d).toNat - s.size = d.toNat := by omega
  simp only [e]
end Go.Proofs.Ytfgnjndfnijjoaa.LibF
end
section
namespace Go.Proofs.Ytfgnjndfnijjoaa.LibG
open Go.RowKit Go.Proofs.Ytfgnjndfnijjoaa.Print Go.Proofs.YtfgnjndfnijjoaaW.PrintWords Go.Proofs.YtfgnjndfnijjoaaW.PrintLast Go.Proofs.YtfgnjndfnijjoaaW.PrintMore Go.Proofs.Ytfgnjndfnijjoaa.LibA Go.Proofs.Ytfgnjndfnijjoaa.LibB Go.Proofs.Ytfgnjndfnijjoaa.LibC Go.Proofs.Ytfgnjndfnijjoaa.LibD Go.Proofs.Ytfgnjndfnijjoaa.LibE Go.Proofs.Ytfgnjndfnijjoaa.LibF
theorem ba_ext {a b : ByteArray} (hs : a.size = b.size) (h : ∀ i : Int, 0 ≤ i → i < a.size → bt a i = bt b i) : a = b := by
  apply ByteArray.ext
  apply Array.ext hs
  intro i h1 h2
  have := h i (by omega) (by have : i < a.size := h1; omega)
  unfold bt at this
  rw [dif_pos (by have : i < a.size := h1; omega), dif_pos (by have : i < b.size := h2; omega)] at this
  have e : (a[((i : Nat) : Int).toNat]'(by have : i < a.size := h1; omega)) = (b[((i : Nat) : Int).toNat]'(by have : i < b.size := h2; omega)) := UInt8.toNat_inj.mp (by omega)
  simpa [ByteArray.getElem_eq_getElem_data] using e
theorem bt_nums {xs : List Int} (hx : ∀ x ∈ xs, 0 ≤ x ∧ x < 256) {i : Nat} (hi : i < xs.length) : bt (strOfNums xs) i = xs[i] := by
  unfold bt
  rw [dif_pos (by rw [strOfNums_size]; omega)]
  have := hx xs[i] (List.getElem_mem hi)
  simp only [strOfNums, ByteArray.getElem_eq_getElem_data, Int.toNat_natCast, List.getElem_toArray, List.getElem_map]
  rw [UInt8.toNat_ofNat']
  omega
theorem putL_bytes : ∀ (d : Nat) (x : Int), 0 ≤ x → x < 128 ^ (d + 1) → ∀ y ∈ putL d x, 0 ≤ y ∧ y < 256
  | 0, x, h0, h1, y, hy => by
    simp [putL] at hy
    subst hy
    omega
  | d + 1, x, h0, h1, y, hy => by
    unfold putL at hy
    split at hy
    · rcases List.mem_cons.mp hy with rfl | hy
      · omega
      · refine putL_bytes d (x / 128) (by omega) ?_ y hy
        rw [Int.pow_succ] at h1
        exact Int.ediv_lt_of_lt_mul (by omega) h1
    · simp at hy
      subst hy
      omega
theorem pow_le {a b : Nat} (h : a ≤ b) : (128 : Int) ^ a ≤ 128 ^ b := by
  induction h with
  | refl => exact Int.le_refl _
  | @step m _ ih => rw [Int.pow_succ]; have : (0 : Int) < 128 ^ a := Int.pow_pos (by decide); omega
theorem pow_pos (n : Nat) : (0 : Int) < 128 ^ n := Int.pow_pos (by decide)
theorem num_canon (s : ByteArray) : ∀ (k : Nat) (i acc : Int), 0 ≤ i → i + (k + 1 : Nat) = 10 → (numL s (k + 1) i acc).1 = 0 →
    ∃ x : Int, 0 ≤ x ∧ x < 128 ^ (k + 1) ∧ (i = 0 ∨ 0 < x) ∧ (numL s (k + 1) i acc).2.1 = acc + x * 128 ^ i.toNat ∧ (numL s (k + 1) i acc).2.2 = i + (putL k x).length ∧ i + (putL k x).length ≤ s.size ∧ ∀ j (hj : j < (putL k x).length), bt s (i + j) = (putL k x)[j]
  | k, i, acc, hi, hk, h => by
    simp only [numL] at h ⊢
    have hr := bt_range s i
    by_cases hlt : i < (s.size : Int)
    · rw [if_pos hlt] at h ⊢
      by_cases hok : (i < 9 ∨ bt s i ≤ 1) ∧ (i = 0 ∨ bt s i ≠ 0)
      · rw [if_pos hok] at h ⊢
        by_cases hb : bt s i < 128
        · rw [if_pos hb] at h ⊢
          have hp : putL k (bt s i) = [bt s i] := by
            cases k with
            | zero => rfl
            | succ d => show (if bt s i ≥ 128 then _ else _) = _; rw [if_neg (by omega)]
          refine ⟨bt s i, hr.1, ?_, by omega, by rw [show bt s i % 128 = bt s i by omega], by rw [hp]; rfl, by rw [hp]; simp; omega, fun j hj => ?_⟩
          · have : (128 : Int) ^ 1 ≤ 128 ^ (k + 1) := pow_le (by omega)
            omega
          · simp only [hp, List.length_singleton] at hj ⊢
            have : j = 0 := by omega
            subst this
            simp
        · rw [if_neg hb] at h ⊢
          cases k with
          | zero => omega
          | succ k =>
            obtain ⟨x, h1, h2, h3, h4, h5, h6, h7⟩ := num_canon s k (i + 1) _ (by omega) (by omega) h
            have hx : 0 < x := by omega
            have hp : putL (k + 1) (x * 128 + bt s i % 128) = bt s i :: putL k x := by
              show (if x * 128 + bt s i % 128 ≥ 128 then ((x * 128 + bt s i % 128) % 128 + 128) :: putL k ((x * 128 + bt s i % 128) / 128) else _) = _
              rw [if_pos (by omega), show (x * 128 + bt s i % 128) / 128 = x by omega, show (x * 128 + bt s i % 128) % 128 + 128 = bt s i by omega]
            refine ⟨x * 128 + bt s i % 128, by omega, by rw [Int.pow_succ]; omega, .inr (by omega), ?_, ?_, ?_, ?_⟩
            · rw [h4, show (i + 1).toNat = i.toNat + 1 by omega, Int.pow_succ, Int.add_mul, Int.mul_assoc, Int.mul_comm 128 (128 ^ i.toNat)]
              omega
            · rw [h5, hp, List.length_cons]; omega
            · rw [hp, List.length_cons]; omega
            · intro j hj
              cases j with
              | zero => simp only [hp, List.getElem_cons_zero]; simp
              | succ j =>
                rw [hp, List.length_cons] at hj
                simp only [hp, List.getElem_cons_succ]
                rw [← h7 j (by omega)]
                congr 1
                omega
      · rw [if_neg hok] at h
        cases h
    · rw [if_neg hlt] at h
      cases h
theorem read_put (s : ByteArray) (h : (numL s 10 0 0).1 = 0) : s.extract 0 (numL s 10 0 0).2.2.toNat = strOfNums (putL 9 (numL s 10 0 0).2.1) := by
  obtain ⟨x, h1, h2, _, h4, h5, h6, h7⟩ := num_canon s 9 0 0 (by omega) (by omega) h
  have e4 : (numL s 10 0 0).2.1 = x := by simpa using h4
  have e5 : (numL s 10 0 0).2.2 = (putL 9 x).length := by simpa using h5
  have h6' : (putL 9 x).length ≤ s.size := by omega
  rw [e4, e5, Int.toNat_natCast]
  refine ba_ext (by rw [size_take h6', strOfNums_size]) (fun i h0 hi => ?_)
  rw [size_take h6'] at hi
  obtain ⟨j, rfl⟩ := Int.eq_ofNat_of_zero_le h0
  rw [bt_take h6' h0 hi, bt_nums (putL_bytes 9 x h1 h2) (by omega)]
  have := h7 j (by omega)
  rwa [Int.zero_add] at this
theorem app_cut (a b : ByteArray) : (a ++ b).extract a.size (a ++ b).size = b := by
  refine ba_ext (by rw [ByteArray.size_extract, ByteArray.size_append]; omega) (fun i h0 hi => ?_)
  rw [ByteArray.size_extract, ByteArray.size_append] at hi
  rw [bt_drop (Nat.le_refl _) h0 (by rw [ByteArray.size_append]; omega), bt_app_right h0 (by omega)]
theorem take_drop (s : ByteArray) (n : Nat) (hn : n ≤ s.size) : s.extract 0 n ++ s.extract n s.size = s := by
  refine ba_ext (by rw [ByteArray.size_append, size_take hn, ByteArray.size_extract]; omega) (fun i h0 hi => ?_)
  rw [ByteArray.size_append, size_take hn, ByteArray.size_extract] at hi
  by_cases h : i < n
  · rw [bt_app_left h0 (by rw [size_take hn]; exact h), bt_take hn h0 h]
  · obtain ⟨j, rfl⟩ : ∃ j, i = ((s.extract 0 n).size : Int) + j := ⟨i - n, by rw [size_take hn]; omega⟩
    rw [size_take hn] at h hi
    rw [bt_app_right (by omega) (by rw [ByteArray.size_extract]; omega), bt_drop (Nat.le_refl _) (by omega) (by omega), size_take hn]
end Go.Proofs.Ytfgnjndfnijjoaa.LibG
end
section
namespace Go.Proofs.Ytfgnjndfnijjoaa.RowsA
set_option linter.unusedSimpArgs false
set_option linter.unusedVariables false
open Go.RowKit Go.Proofs.Ytfgnjndfnijjoaa.Print Go.Proofs.YtfgnjndfnijjoaaW.PrintWords Go.Proofs.YtfgnjndfnijjoaaW.PrintLast Go.Proofs.YtfgnjndfnijjoaaW.PrintMore Go.Proofs.Ytfgnjndfnijjoaa.LibA Go.Proofs.Ytfgnjndfnijjoaa.LibB Go.Proofs.Ytfgnjndfnijjoaa.LibC Go.Proofs.Ytfgnjndfnijjoaa.LibD Go.Proofs.Ytfgnjndfnijjoaa.LibE Go.Proofs.Ytfgnjndfnijjoaa.LibF Go.Proofs.Ytfgnjndfnijjoaa.LibG
abbrev Mv := S30
abbrev rdM (l : List Mv) (i : Int) : Mv := rd_T30 l i
theorem Ev.succ {α : Type} {g : Nat → Option α} {r : α} (h : Ev (fun k => g (k + 1)) r) : Ev g r := Ev.step (fun _ => rfl) h
theorem Ev.all {α : Type} {g : Nat → Option α} {r : α} (K : Nat) (h : ∀ k, K ≤ k → g k = some r) : Ev g r := ⟨K, h⟩
theorem Ev.det {α : Type} {g : Nat → Option α} {r q : α} (h : Ev g r) (h' : Ev g q) : r = q := by
  obtain ⟨a, ha⟩ := h
  obtain ⟨b, hb⟩ := h'
  have h1 := ha (a + b) (by omega)
  rw [hb (a + b) (by omega)] at h1
  exact (Option.some.inj h1).symm
def Sane (m : Mv) : Prop := m.f3.size ≤ 140737488351232 ∧ (-9223372036854775808 ≤ m.f0.f0 ∧ m.f0.f0 ≤ 9223372036854775807) ∧ (-9223372036854775808 ≤ m.f0.f1 ∧ m.f0.f1 ≤ 9223372036854775807) ∧ (-9223372036854775808 ≤ m.f1 ∧ m.f1 ≤ 9223372036854775807) ∧ (-9223372036854775808 ≤ m.f2 ∧ m.f2 ≤ 9223372036854775807) ∧ (∃ b, FB b m.f4)
structure OneP (m : Mv) : Prop where
  c1 : 1 ≤ m.f0.f0
  c2 : m.f0.f0 ≤ 4611686018427387903
  r1 : 1 ≤ m.f0.f1
  r2 : m.f0.f1 ≤ 255
  k1 : 1 ≤ m.f2
  k2 : m.f2 ≤ 2147483647
  p1 : 0 ≤ m.f1
  p2 : m.f1 ≤ 2147483647
  nm : m.f3.size ≤ 64
  vl : Vld m.f3
noncomputable instance (m : Mv) : Decidable (OneP m) := Classical.propDecidable _
theorem one_is (m : Mv) : moves_One.f m.f0.f0 m.f0.f1 m.f1 m.f2 m.f3 m.f4 = some (decide (OneP m)) := by
  unfold moves_One.f
  by_cases c1 : m.f0.f0 ≥ 1
  rotate_left; · rw [if_neg c1, decide_eq_false (fun h => c1 h.c1)]
  rw [if_pos c1]
  by_cases c2 : m.f0.f0 ≤ 4611686018427387903
  rotate_left; · rw [if_neg c2, decide_eq_false (fun h => c2 h.c2)]
  rw [if_pos c2]
  by_cases r1 : m.f0.f1 ≥ 1
  rotate_left; · rw [if_neg r1, decide_eq_false (fun h => r1 h.r1)]
  rw [if_pos r1]
  by_cases r2 : m.f0.f1 ≤ 255
  rotate_left; · rw [if_neg r2, decide_eq_false (fun h => r2 h.r2)]
  rw [if_pos r2]
  unfold moves_Row.f
  simp only [Option.bind_some]
  unfold tree_One.f
  by_cases k1 : m.f2 ≥ 1
  rotate_left; · rw [if_neg k1, decide_eq_false (fun h => k1 h.k1)]; rfl
  rw [if_pos k1]
  by_cases k2 : m.f2 ≤ 2147483647
  rotate_left; · rw [if_neg k2, decide_eq_false (fun h => k2 h.k2)]; rfl
  rw [if_pos k2]
  by_cases p1 : m.f1 ≥ 0
  rotate_left; · rw [if_neg p1, decide_eq_false (fun h => p1 h.p1)]; rfl
  rw [if_pos p1]
  by_cases p2 : m.f1 ≤ 2147483647
  rotate_left; · rw [if_neg p2, decide_eq_false (fun h => p2 h.p2)]; rfl
  rw [if_pos p2]
  by_cases nm : (m.f3.size : Int) ≤ 64
  rotate_left; · rw [if_neg nm, decide_eq_false (fun h => nm (by have := h.nm; omega))]; rfl
  rw [if_pos nm, wordValid _ (by omega)]
  simp only [Option.bind_some]
  congr 1
  rw [decide_eq_decide]
  exact ⟨fun h => ⟨c1, c2, r1, r2, k1, k2, p1, p2, by omega, h⟩, fun h => h.vl⟩
theorem refOne_is (m : Mv) : Ev (fun k => bonsairef13_One.f k m.f0.f0 m.f0.f1 m.f1 m.f2 m.f3 m.f4) (decide (OneP m)) := by
  unfold bonsairef13_One.f bonsairef13_Time.f
  by_cases c1 : m.f0.f0 ≥ 1
  rotate_left; · simp only [if_neg c1, decide_eq_false (fun h : OneP m => c1 h.c1), Option.bind_some]; exact Ev.now _
  by_cases c2 : m.f0.f0 ≤ 4611686018427387903
  rotate_left; · simp only [if_pos c1, if_neg c2, decide_eq_false (fun h : OneP m => c2 h.c2), Option.bind_some]; exact Ev.now _
  by_cases r1 : m.f0.f1 ≥ 1
  rotate_left; · simp only [if_pos c1, if_pos c2, if_neg r1, decide_eq_false (fun h : OneP m => r1 h.r1), Option.bind_some]; exact Ev.now _
  by_cases r2 : m.f0.f1 ≤ 255
  rotate_left; · simp only [if_pos c1, if_pos c2, if_pos r1, decide_eq_false r2, decide_eq_false (fun h : OneP m => r2 h.r2), Option.bind_some]; exact Ev.now _
  unfold bonsairef13_Row.f
  simp only [if_pos c1, if_pos c2, if_pos r1, decide_eq_true r2, Option.bind_some, if_true]
  unfold bonsairef12_One.f
  by_cases k1 : m.f2 ≥ 1
  rotate_left; · simp only [if_neg k1, decide_eq_false (fun h : OneP m => k1 h.k1), Option.bind_some]; exact Ev.now _
  by_cases k2 : m.f2 ≤ 2147483647
  rotate_left; · simp only [if_pos k1, if_neg k2, decide_eq_false (fun h : OneP m => k2 h.k2), Option.bind_some]; exact Ev.now _
  by_cases p1 : m.f1 ≥ 0
  rotate_left; · simp only [if_pos k1, if_pos k2, if_neg p1, decide_eq_false (fun h : OneP m => p1 h.p1), Option.bind_some]; exact Ev.now _
  by_cases p2 : m.f1 ≤ 2147483647
  rotate_left; · simp only [if_pos k1, if_pos k2, if_pos p1, if_neg p2, decide_eq_false (fun h : OneP m => p2 h.p2), Option.bind_some]; exact Ev.now _
  by_cases nm : (m.f3.size : Int) ≤ 64
  rotate_left; · simp only [if_pos k1, if_pos k2, if_pos p1, if_pos p2, if_neg nm, decide_eq_false (fun h : OneP m => nm (by have := h.nm; omega)), Option.bind_some]; exact Ev.now _
  simp only [if_pos k1, if_pos k2, if_pos p1, if_pos p2, if_pos nm]
  have hv : Ev (fun k => bonsairef04_Valid.f k m.f3) (decide (Vld m.f3)) := Ev.all (m.f3.size + 1) fun k hk => refValid _ (by omega) k hk
  have e : decide (OneP m) = decide (Vld m.f3) := decide_eq_decide.mpr ⟨fun h => h.vl, fun h => ⟨c1, c2, r1, r2, k1, k2, p1, p2, by omega, h⟩⟩
  rw [e]
  exact Ev.bind (Ev.bind hv (Ev.now _)) (Ev.now _)
def BefP (a b : Mv) : Prop := beforeB a.f0.f0 a.f0.f1 b.f0.f0 b.f0.f1 = true
theorem refBefore_is (a b c d : Int) : bonsairef02_Before.f a b c d = some (beforeB a b c d) := by
  unfold bonsairef02_Before.f beforeB
  by_cases h : a < c
  · rw [if_pos h]; simp [h]
  · rw [if_neg h]
    by_cases h2 : a = c
    · rw [if_pos h2]; simp [h2]
    · rw [if_neg h2]; simp [h, h2]
structure MayP (l : List Mv) : Prop where
  few : l.length ≤ 2000
  one : ∀ m ∈ l, OneP m
  up : ∀ i : Nat, 0 < i → i < l.length → BefP (rdM l ((i : Int) - 1)) (rdM l i)
noncomputable instance (l : List Mv) : Decidable (MayP l) := Classical.propDecidable _
theorem any_is (l : List Mv) : cfMove.any l = some (!decide (∀ m ∈ l, OneP m)) := by
  induction l with
  | nil => simp [cfMove.any]
  | cons m t ih =>
    unfold cfMove.any cfMove.one
    rw [one_is m]
    simp only [Option.bind_some]
    by_cases h : OneP m
    · simp only [h, decide_true, List.mem_cons, forall_eq_or_imp, true_and]
      rw [if_pos trivial]
      exact ih
    · simp [h]
def UpP (l : List Mv) (i : Nat) : Prop := ∀ j : Nat, i ≤ j → j < l.length → BefP (rdM l ((j : Int) - 1)) (rdM l j)
noncomputable instance (l : List Mv) (i : Nat) : Decidable (UpP l i) := Classical.propDecidable _
theorem up_succ {l : List Mv} {i : Nat} (hi : i < l.length) : UpP l i ↔ BefP (rdM l ((i : Int) - 1)) (rdM l i) ∧ UpP l (i + 1) :=
  ⟨fun h => ⟨h i (Nat.le_refl _) hi, fun j h1 h2 => h j (by omega) h2⟩, fun h j h1 h2 => by
    by_cases e : j = i
    · subst e; exact h.1
    · exact h.2 j (by omega) h2⟩
theorem up_end {l : List Mv} {i : Nat} (hi : l.length ≤ i) : UpP l i := fun j h1 h2 => by omega
theorem mayL (l : List Mv) (hl : l.length ≤ 9223372036854775807) (d : Nat) : ∀ i : Nat, 1 ≤ i → l.length ≤ i + d →
    Ev (fun k => moves_May.l0 k l (i : Int)) (decide (UpP l i) && (decide (l.length ≤ 2000) && decide (∀ m ∈ l, OneP m))) := by
  induction d with
  | zero =>
    intro i h1 h2
    refine Ev.succ ?_
    simp only [moves_May.l0, if_neg (show ¬ (i : Int) < (l.length : Int) by omega)]
    rw [decide_eq_true (up_end (by omega) : UpP l i), Bool.true_and]
    by_cases h : (l.length : Int) ≤ 2000
    · simp only [if_pos h, slices_ContainsFunc_bonsai_api_Move_bonsai_api_Move.f, any_is, Option.bind_some, Bool.not_not]
      rw [decide_eq_true (show l.length ≤ 2000 by omega), Bool.true_and]
      exact Ev.now _
    · simp only [if_neg h]
      rw [decide_eq_false (show ¬ l.length ≤ 2000 by omega), Bool.false_and]
      exact Ev.now _
  | succ d ih =>
    intro i h1 h2
    by_cases hlt : i < l.length
    rotate_left
    · have := ih i h1 (by omega)
      exact this
    refine Ev.succ ?_
    have hw : wrap64 ((i : Int) - 1) = (i : Int) - 1 := w64 (by omega) (by omega)
    have hw2 : wrap64 ((i : Int) + 1) = ((i + 1 : Nat) : Int) := by rw [w64 (by omega) (by omega)]; omega
    simp only [moves_May.l0, if_pos (show (i : Int) < (l.length : Int) by omega), hw, hw2, if_pos (show (0 : Int) ≤ (i : Int) - 1 by omega), if_pos (show (i : Int) - 1 < (l.length : Int) by omega), if_pos (show (0 : Int) ≤ (i : Int) by omega), rank_Before.f, Option.bind_some]
    by_cases hb : BefP (rdM l ((i : Int) - 1)) (rdM l i)
    · have e : decide (UpP l i) = decide (UpP l (i + 1)) := decide_eq_decide.mpr ⟨fun h => ((up_succ hlt).mp h).2, fun h => (up_succ hlt).mpr ⟨hb, h⟩⟩
      rw [e]
      unfold BefP at hb
      simp only [if_pos hb]
      exact ih (i + 1) (by omega) (by omega)
    · have e : decide (UpP l i) = false := decide_eq_false fun h => hb ((up_succ hlt).mp h).1
      rw [e, Bool.false_and]
      unfold BefP at hb
      simp only [if_neg hb]
      exact Ev.now _
theorem may_iff (l : List Mv) : MayP l ↔ UpP l 1 ∧ l.length ≤ 2000 ∧ ∀ m ∈ l, OneP m := ⟨fun h => ⟨fun j h1 h2 => h.up j (by omega) h2, h.few, h.one⟩, fun h => ⟨h.2.1, h.2.2, fun j h1 h2 => h.1 j (by omega) h2⟩⟩
theorem may_is (l : List Mv) (hl : l.length ≤ 9223372036854775807) : Ev (fun k => moves_May.f k l) (decide (MayP l)) := by
  have h := mayL l hl l.length 1 (by omega) (by omega)
  unfold moves_May.f
  have e : (decide (UpP l 1) && (decide (l.length ≤ 2000) && decide (∀ m ∈ l, OneP m))) = decide (MayP l) := by
    rw [Bool.eq_iff_iff]
    simp [may_iff l]
  rw [← e]
  exact h
theorem rd_mem {l : List Mv} {i : Nat} (h : i < l.length) : rdM l (i : Int) = l[i] := by
  show l.getD (i : Int).toNat _ = _
  simp [h]
structure OkFrom (l : List Mv) (i : Nat) : Prop where
  one : ∀ j : Nat, i ≤ j → j < l.length → OneP (rdM l j)
  up : ∀ j : Nat, 0 < j → i ≤ j → j < l.length → BefP (rdM l ((j : Int) - 1)) (rdM l j)
noncomputable instance (l : List Mv) (i : Nat) : Decidable (OkFrom l i) := Classical.propDecidable _
theorem ok_succ {l : List Mv} {i : Nat} (hi : i < l.length) : OkFrom l i ↔ OneP (rdM l i) ∧ (0 < i → BefP (rdM l ((i : Int) - 1)) (rdM l i)) ∧ OkFrom l (i + 1) :=
  ⟨fun h => ⟨h.one i (Nat.le_refl _) hi, fun h0 => h.up i h0 (Nat.le_refl _) hi, ⟨fun j h1 h2 => h.one j (by omega) h2, fun j h0 h1 h2 => h.up j h0 (by omega) h2⟩⟩, fun h => ⟨fun j h1 h2 => by
    by_cases e : j = i
    · subst e; exact h.1
    · exact h.2.2.one j (by omega) h2, fun j h0 h1 h2 => by
    by_cases e : j = i
    · subst e; exact h.2.1 h0
    · exact h.2.2.up j h0 (by omega) h2⟩⟩
theorem refMayL (l : List Mv) (hl : l.length ≤ 2000) (d : Nat) : ∀ i : Nat, l.length ≤ i + d → Ev (fun k => bonsairef13_May.l0 k l (i : Int)) (decide (OkFrom l i)) := by
  induction d with
  | zero =>
    intro i h2
    refine Ev.succ ?_
    simp only [bonsairef13_May.l0, if_neg (show ¬ (i : Int) < (l.length : Int) by omega)]
    rw [decide_eq_true (show OkFrom l i from ⟨fun j h1 h2 => by omega, fun j h0 h1 h2 => by omega⟩)]
    exact Ev.now _
  | succ d ih =>
    intro i h2
    by_cases hlt : i < l.length
    rotate_left
    · exact ih i (by omega)
    refine Ev.succ ?_
    have hw2 : wrap64 ((i : Int) + 1) = ((i + 1 : Nat) : Int) := by rw [w64 (by omega) (by omega)]; omega
    simp only [bonsairef13_May.l0, if_pos (show (i : Int) < (l.length : Int) by omega), hw2, if_pos (show (0 : Int) ≤ (i : Int) by omega)]
    refine Ev.bind (refOne_is (rdM l i)) ?_
    by_cases ho : OneP (rdM l i)
    rotate_left
    · rw [decide_eq_false (fun h : OkFrom l i => ho ((ok_succ hlt).mp h).1)]
      simp only [decide_eq_false ho, Bool.false_eq_true, if_false]
      exact Ev.now _
    simp only [decide_eq_true ho, if_true]
    by_cases h0 : 0 < i
    · have hw : wrap64 ((i : Int) - 1) = (i : Int) - 1 := w64 (by omega) (by omega)
      simp only [if_pos (show (i : Int) > 0 by omega), hw, if_pos (show (0 : Int) ≤ (i : Int) - 1 by omega), if_pos (show (i : Int) - 1 < (l.length : Int) by omega), refBefore_is, Option.bind_some]
      by_cases hb : BefP (rdM l ((i : Int) - 1)) (rdM l i)
      · have e : decide (OkFrom l i) = decide (OkFrom l (i + 1)) := decide_eq_decide.mpr ⟨fun h => ((ok_succ hlt).mp h).2.2, fun h => (ok_succ hlt).mpr ⟨ho, fun _ => hb, h⟩⟩
        rw [e]
        unfold BefP at hb
        simp only [if_pos hb]
        exact ih (i + 1) (by omega)
      · rw [decide_eq_false (fun h : OkFrom l i => hb (((ok_succ hlt).mp h).2.1 h0))]
        unfold BefP at hb
        simp only [if_neg hb]
        exact Ev.now _
    · simp only [if_neg (show ¬ (i : Int) > 0 by omega)]
      have e : decide (OkFrom l i) = decide (OkFrom l (i + 1)) := decide_eq_decide.mpr ⟨fun h => ((ok_succ hlt).mp h).2.2, fun h => (ok_succ hlt).mpr ⟨ho, fun h => absurd h h0, h⟩⟩
      rw [e]
      exact ih (i + 1) (by omega)
theorem may_ok (l : List Mv) : MayP l ↔ l.length ≤ 2000 ∧ OkFrom l 0 := ⟨fun h => ⟨h.few, fun j _ h2 => by rw [rd_mem h2]; exact h.one _ (List.getElem_mem h2), fun j h0 _ h2 => h.up j h0 h2⟩, fun h => ⟨h.1, fun m hm => by
  obtain ⟨j, hj, rfl⟩ := List.getElem_of_mem hm
  rw [← rd_mem hj]
  exact h.2.one j (by omega) hj, fun j h0 h2 => h.2.up j h0 (by omega) h2⟩⟩
theorem refMay_is (l : List Mv) : Ev (fun k => bonsairef13_May.f k l) (decide (MayP l)) := by
  unfold bonsairef13_May.f
  by_cases h : (l.length : Int) > 2000
  · simp only [if_pos h]
    rw [decide_eq_false (fun hm : MayP l => by have := hm.few; omega)]
    exact Ev.now _
  · simp only [if_neg h]
    have := refMayL l (by omega) l.length 0 (by omega)
    rw [show decide (MayP l) = decide (OkFrom l 0) from decide_eq_decide.mpr ⟨fun h => ((may_ok l).mp h).2, fun h' => (may_ok l).mpr ⟨by omega, h'⟩⟩]
    exact this
theorem fewL (l : List Mv) (hl : l.length ≤ 9223372036854775807) (d : Nat) : ∀ i : Nat, l.length ≤ i + d → ∃ b, Ev (fun k => bonsairef13_Few.l0 k l (i : Int)) b ∧ (b = true → ∀ j : Nat, i ≤ j → j < l.length → (rdM l j).f3.size ≤ 100) := by
  induction d with
  | zero =>
    intro i h2
    refine ⟨true, Ev.succ ?_, fun _ j h1 h3 => by omega⟩
    simp only [bonsairef13_Few.l0, if_neg (show ¬ (i : Int) < (l.length : Int) by omega)]
    exact Ev.now _
  | succ d ih =>
    intro i h2
    by_cases hlt : i < l.length
    rotate_left
    · exact ih i (by omega)
    have hw2 : wrap64 ((i : Int) + 1) = ((i + 1 : Nat) : Int) := by rw [w64 (by omega) (by omega)]; omega
    by_cases hs : ((rdM l (i : Int)).f3.size : Int) > 100
    · refine ⟨false, Ev.succ ?_, fun h => absurd h (by decide)⟩
      simp only [bonsairef13_Few.l0, if_pos (show (i : Int) < (l.length : Int) by omega), if_pos (show (0 : Int) ≤ (i : Int) by omega), if_pos hs]
      exact Ev.now _
    · obtain ⟨b, h1, h3⟩ := ih (i + 1) (by omega)
      refine ⟨b, Ev.succ ?_, fun hb j hj1 hj2 => ?_⟩
      · simp only [bonsairef13_Few.l0, if_pos (show (i : Int) < (l.length : Int) by omega), if_pos (show (0 : Int) ≤ (i : Int) by omega), if_neg hs, hw2]
        exact h1
      · by_cases e : j = i
        · subst e; omega
        · exact h3 hb j (by omega) hj2
theorem few_is (l : List Mv) (n : Int) (hl : l.length ≤ 9223372036854775807) : ∃ b, Ev (fun k => bonsairef13_Few.f k l n) b ∧ (b = true → (l.length : Int) ≤ n ∧ ∀ m ∈ l, m.f3.size ≤ 100) := by
  unfold bonsairef13_Few.f
  by_cases h : (l.length : Int) > n
  · simp only [if_pos h]
    exact ⟨false, Ev.now _, fun h => absurd h (by decide)⟩
  · simp only [if_neg h]
    obtain ⟨b, h1, h2⟩ := fewL l hl l.length 0 (by omega)
    refine ⟨b, h1, fun hb => ⟨by omega, fun m hm => ?_⟩⟩
    obtain ⟨j, hj, rfl⟩ := List.getElem_of_mem hm
    rw [← rd_mem hj]
    exact h2 hb j (by omega) hj
end Go.Proofs.Ytfgnjndfnijjoaa.RowsA
end
section
namespace Go.Proofs.Ytfgnjndfnijjoaa.RowsB
set_option linter.unusedSimpArgs false
set_option linter.unusedVariables false
open Go.RowKit Go.Proofs.Ytfgnjndfnijjoaa.Print Go.Proofs.YtfgnjndfnijjoaaW.PrintWords Go.Proofs.YtfgnjndfnijjoaaW.PrintLast Go.Proofs.YtfgnjndfnijjoaaW.PrintMore Go.Proofs.Ytfgnjndfnijjoaa.LibA Go.Proofs.Ytfgnjndfnijjoaa.LibB Go.Proofs.Ytfgnjndfnijjoaa.LibC Go.Proofs.Ytfgnjndfnijjoaa.LibD Go.Proofs.Ytfgnjndfnijjoaa.LibE Go.Proofs.Ytfgnjndfnijjoaa.LibF Go.Proofs.Ytfgnjndfnijjoaa.LibG Go.Proofs.Ytfgnjndfnijjoaa.RowsA
def putB (x : Int) : ByteArray := strOfNums (putL 9 x)
theorem putB_size (x : Int) : 1 ≤ (putB x).size ∧ (putB x).size ≤ 10 := by
  unfold putB
  rw [strOfNums_size]
  exact putL_length 9 x
theorem put_is (x : Int) (h0 : 0 ≤ x) (h1 : x < 18446744073709551616) : Ev (fun k => pack_Put.f k x) (putB x) := Ev.all 10 fun k hk => (put_some x h0 h1 k hk).1
theorem refPut_is (x : Int) (h0 : 0 ≤ x) (h1 : x < 18446744073709551616) : Ev (fun k => bonsairef03_Put.f k x) (putB x) := Ev.all 10 fun k hk => (put_some x h0 h1 k hk).2
theorem num_read_put (r : ByteArray) (n : Int) (y : ByteArray) (h : pack_Reader_Num.f r 0 = some (n, y, 0)) : r = putB n ++ y ∧ 0 ≤ n ∧ n < 18446744073709551616 := by
  unfold pack_Reader_Num.f at h
  by_cases hr : r.size ≤ 9223372036854775000
  rotate_left
  · rw [if_neg hr] at h; exact absurd h (by simp)
  rw [if_pos hr, if_pos rfl] at h
  obtain ⟨hn1, hn2⟩ := numL_is r 10 0 0 (by omega) (by omega) (by omega) (by omega) (by decide)
  by_cases hR : (numL r 10 0 0).1 = 0
  · rw [if_pos hR] at h
    simp only [Option.some.injEq, Prod.mk.injEq] at h
    obtain ⟨h1, h2, _⟩ := h
    have hn := hn1 hR
    have hp := read_put r hR
    subst h1
    refine ⟨?_, hn.1, hn.2.1⟩
    rw [← h2]
    unfold putB
    rw [← hp]
    exact (take_drop r _ (by omega)).symm
  · rw [if_neg hR] at h
    simp only [Option.some.injEq, Prod.mk.injEq] at h
    omega
def fixL : Nat → Int → List Int
  | 0, _ => []
  | n + 1, u => u % 256 :: fixL n (u / 256)
def fixB (u : Int) : ByteArray := strOfNums (fixL 8 u)
theorem fixL_length : ∀ (n : Nat) (u : Int), (fixL n u).length = n
  | 0, _ => rfl
  | n + 1, u => by simp [fixL, fixL_length n]
theorem fixB_size (u : Int) : (fixB u).size = 8 := by unfold fixB; rw [strOfNums_size, fixL_length]
theorem set_at (acc : List Int) (d : Nat) (v : Int) : (acc ++ List.replicate (d + 1) 0).set acc.length v = (acc ++ [v]) ++ List.replicate d 0 := by
  rw [List.set_append_right _ _ (Nat.le_refl _), Nat.sub_self, List.replicate_succ, List.set_cons_zero, List.append_assoc]
  rfl
theorem byte_at (u : Int) (i : Nat) (hi : i < 8) : shr .u64 u (8 * (i : Int)) = u / 256 ^ i := by
  have h : i = 0 ∨ i = 1 ∨ i = 2 ∨ i = 3 ∨ i = 4 ∨ i = 5 ∨ i = 6 ∨ i = 7 := by omega
  rcases h with rfl | rfl | rfl | rfl | rfl | rfl | rfl | rfl <;> rfl
theorem byte_next (u : Int) (i : Nat) (hi : i < 8) : u / 256 ^ i / 256 = u / 256 ^ (i + 1) := by
  have h : i = 0 ∨ i = 1 ∨ i = 2 ∨ i = 3 ∨ i = 4 ∨ i = 5 ∨ i = 6 ∨ i = 7 := by omega
  rcases h with rfl | rfl | rfl | rfl | rfl | rfl | rfl | rfl <;> simp <;> omega
theorem fixedL (u : Int) (d : Nat) : ∀ (i : Nat) (acc : List Int), i + d = 8 → acc.length = i → Ev (fun k => pack_Fixed.l0 k u (acc ++ List.replicate d 0) 8 i) (strOfNums (acc ++ fixL d (u / 256 ^ i))) := by
  induction d with
  | zero =>
    intro i acc hi ha
    refine Ev.succ ?_
    simp only [pack_Fixed.l0, if_neg (show ¬ (i : Int) < 8 by omega), fixL, List.replicate_zero]
    exact Ev.now _
  | succ d ih =>
    intro i acc hi ha
    refine Ev.succ ?_
    have hlen : (acc ++ List.replicate (d + 1) (0 : Int)).length = 8 := by simp; omega
    simp only [pack_Fixed.l0, if_pos (show (i : Int) < 8 by omega), w64 (show -9223372036854775808 ≤ 8 * (i : Int) by omega) (by omega), w64 (show -9223372036854775808 ≤ (i : Int) + 1 by omega) (by omega), if_pos (show (0 : Int) ≤ 8 * (i : Int) by omega), if_pos (show (0 : Int) ≤ (i : Int) by omega), hlen, if_pos (show (i : Int) < ((8 : Nat) : Int) by omega), Int.toNat_natCast]
    have e : (acc ++ List.replicate (d + 1) (0 : Int)).set i (shr .u64 u (8 * (i : Int)) % 256) = (acc ++ [shr .u64 u (8 * (i : Int)) % 256]) ++ List.replicate d 0 := by rw [← ha]; exact set_at _ _ _
    rw [e, byte_at u i (by omega)]
    have := ih (i + 1) (acc ++ [u / 256 ^ i % 256]) (by omega) (by simp [ha])
    rw [← byte_next u i (by omega)] at this
    show Ev _ (strOfNums (acc ++ (u / 256 ^ i % 256 :: fixL d (u / 256 ^ i / 256))))
    rw [show acc ++ (u / 256 ^ i % 256 :: fixL d (u / 256 ^ i / 256)) = (acc ++ [u / 256 ^ i % 256]) ++ fixL d (u / 256 ^ i / 256) by simp]
    exact this
theorem fixed_is (u : Int) : Ev (fun k => pack_Fixed.f k u) (fixB u) := by
  have := fixedL u 8 0 [] (by omega) rfl
  unfold pack_Fixed.f
  simp only [Option.bind_some]
  rw [show fixB u = strOfNums ([] ++ fixL 8 (u / 256 ^ 0)) from by rw [Int.pow_zero, Int.ediv_one]; rfl]
  exact this
theorem refFixedL (d : Nat) : ∀ (u : Int) (acc : List Int) (i : Int), 0 ≤ u → u < 18446744073709551616 → acc.length ≤ 100 - d → d ≤ 8 → i + d = 8 → Ev (fun k => bonsairef03_Fixed.l0 k u acc i) (strOfNums (acc ++ fixL d u)) := by
  induction d with
  | zero =>
    intro u acc i h0 h1 ha hd hi
    refine Ev.succ ?_
    simp only [bonsairef03_Fixed.l0, if_neg (show ¬ i < 8 by omega), fixL, List.append_nil]
    exact Ev.now _
  | succ d ih =>
    intro u acc i h0 h1 ha hd hi
    refine Ev.succ ?_
    simp only [bonsairef03_Fixed.l0, if_pos (show i < 8 by omega), if_pos (show acc.length < 140737488355328 by omega), w64 (show -9223372036854775808 ≤ i + 1 by omega) (by omega)]
    rw [Int.tdiv_eq_ediv_of_nonneg h0, Int.tmod_eq_emod_of_nonneg h0, pack_wraps_u64 _ (by omega) (by omega), Int.emod_emod_of_dvd u (Int.dvd_refl 256)]
    have := ih (u / 256) (acc ++ [u % 256]) (i + 1) (by omega) (by omega) (by simp; omega) (by omega) (by omega)
    rwa [List.append_assoc] at this
theorem refFixed_is (u : Int) (h0 : 0 ≤ u) (h1 : u < 18446744073709551616) : Ev (fun k => bonsairef03_Fixed.f k u) (fixB u) := by
  have := refFixedL 8 u [] 0 h0 h1 (by simp) (by omega) (by omega)
  exact this
def valL : List Int → Int
  | [] => 0
  | x :: xs => x + 256 * valL xs
theorem valL_range : ∀ (xs : List Int), (∀ x ∈ xs, 0 ≤ x ∧ x < 256) → 0 ≤ valL xs ∧ valL xs < 256 ^ xs.length
  | [], _ => by simp [valL]
  | x :: xs, h => by
    have h1 := h x (List.mem_cons_self)
    have h2 := valL_range xs (fun y hy => h y (List.mem_cons_of_mem _ hy))
    simp only [valL, List.length_cons, Int.pow_succ]
    omega
theorem fix_valL : ∀ (xs : List Int), (∀ x ∈ xs, 0 ≤ x ∧ x < 256) → fixL xs.length (valL xs) = xs
  | [], _ => rfl
  | x :: xs, h => by
    have h1 := h x (List.mem_cons_self)
    have h2 := fix_valL xs (fun y hy => h y (List.mem_cons_of_mem _ hy))
    have e1 : (x + 256 * valL xs) % 256 = x := by omega
    have e2 : (x + 256 * valL xs) / 256 = valL xs := by omega
    simp only [valL, List.length_cons, fixL, e1, e2, h2]
def numsOf (s : ByteArray) : List Int := (List.range s.size).map fun (i : Nat) => bt s (i : Int)
theorem numsOf_length (s : ByteArray) : (numsOf s).length = s.size := by simp [numsOf]
theorem numsOf_range (s : ByteArray) : ∀ x ∈ numsOf s, 0 ≤ x ∧ x < 256 := by
  intro x hx
  simp only [numsOf, List.mem_map] at hx
  obtain ⟨i, _, rfl⟩ := hx
  have := bt_range s (i : Int)
  omega
theorem str_numsOf (s : ByteArray) : strOfNums (numsOf s) = s := by
  refine ba_ext (by rw [strOfNums_size, numsOf_length]) (fun i h0 hi => ?_)
  rw [strOfNums_size, numsOf_length] at hi
  obtain ⟨j, rfl⟩ := Int.eq_ofNat_of_zero_le h0
  rw [bt_nums (numsOf_range s) (by rw [numsOf_length]; omega)]
  simp [numsOf]
def fixV (s : ByteArray) : Int := valL (numsOf s)
theorem fixB_val (s : ByteArray) (h : s.size = 8) : fixB (fixV s) = s := by
  have h1 := fix_valL (numsOf s) (numsOf_range s)
  rw [numsOf_length, h] at h1
  unfold fixV fixB
  rw [h1, str_numsOf]
theorem fixV_range (s : ByteArray) (h : s.size = 8) : 0 ≤ fixV s ∧ fixV s < 18446744073709551616 := by
  have := valL_range (numsOf s) (numsOf_range s)
  rw [numsOf_length, h] at this
  have h2 := this.2
  simp only [Int.reducePow] at h2
  exact ⟨this.1, h2⟩
theorem or_byte (u b : Int) (hu : 0 ≤ u) (hu1 : u < 72057594037927936) (hb : 0 ≤ b) (hb1 : b < 256) : bits .or .u64 (u * 256) b = u * 256 + b := by
  exact u64_join 8 (u * 256) b (by omega) (by simp) (by omega) hb (by simpa using hb1) (by omega)
theorem pow_mono {a b : Nat} (h : a ≤ b) : (256 : Int) ^ a ≤ 256 ^ b := by
  obtain ⟨c, rfl⟩ := Nat.exists_eq_add_of_le h
  rw [Int.pow_add]
  have h1 : (1 : Int) ≤ 256 ^ c := by have : (0 : Int) < 256 ^ c := Int.pow_pos (by decide); omega
  have h2 : (0 : Int) ≤ 256 ^ a := Int.le_of_lt (Int.pow_pos (by decide))
  exact Int.le_trans (by omega) (Int.mul_le_mul_of_nonneg_left h1 h2)
theorem step_is (u b : Int) (hu : 0 ≤ u) (hu1 : u < 72057594037927936) (hb : 0 ≤ b) (hb1 : b < 256) : pack_Reader_Fix.step u b = b + 256 * u := by
  unfold pack_Reader_Fix.step
  rw [pack_wraps_u64 (u * 256) (by omega) (by omega), pack_wraps_u64 b hb (by omega), or_byte u b hu hu1 hb hb1]
  omega
theorem fold_rev : ∀ (xs : List Int), (∀ x ∈ xs, 0 ≤ x ∧ x < 256) → xs.length ≤ 8 → xs.reverse.foldl pack_Reader_Fix.step 0 = valL xs
  | [], _, _ => rfl
  | x :: xs, h, hl => by
    have h1 := h x (List.mem_cons_self)
    have hx : ∀ y ∈ xs, 0 ≤ y ∧ y < 256 := fun y hy => h y (List.mem_cons_of_mem _ hy)
    have h2 := valL_range xs hx
    have h3 := pow_mono (show xs.length ≤ 7 by simp at hl; omega)
    simp only [Int.reducePow] at h3
    rw [List.reverse_cons, List.foldl_append, fold_rev xs hx (by simp at hl; omega)]
    simp only [List.foldl_cons, List.foldl_nil]
    rw [step_is _ _ h2.1 (by omega) h1.1 h1.2]
    rfl
theorem seq_is (r : ByteArray) : (pack_Reader_Fix.seq r).map (·.2) = (numsOf r).reverse := by
  refine List.ext_getElem (by simp [pack_Reader_Fix.seq, bwUpto, numsOf]) (fun i h1 h2 => ?_)
  simp only [pack_Reader_Fix.seq, bwUpto, List.map_map, List.getElem_map, List.getElem_range, List.getElem_reverse, Function.comp, numsOf, List.length_map, List.length_range]
  have hi : r.size - 1 - i < r.size := by simp [pack_Reader_Fix.seq, bwUpto] at h1; omega
  unfold bt
  rw [dif_pos (by omega)]
  have e : r.data[r.size - 1 - i]? = some (r.data[r.size - 1 - i]'hi) := Array.getElem?_eq_getElem hi
  rw [e]
  rfl
theorem foldF_is (r : ByteArray) (h : r.size ≤ 8) : pack_Reader_Fix.fold (pack_Reader_Fix.seq r) = fixV r := by
  unfold pack_Reader_Fix.fold fixV
  have e : (pack_Reader_Fix.seq r).foldl (fun u p => pack_Reader_Fix.step u p.2) 0 = ((pack_Reader_Fix.seq r).map (·.2)).foldl pack_Reader_Fix.step 0 := by rw [List.foldl_map]
  rw [e, seq_is, fold_rev _ (numsOf_range r) (by rw [numsOf_length]; exact h)]
theorem refFixL (r : ByteArray) (h : r.size ≤ 8) (s : ByteArray) (a e : Int) : ∀ j : Nat, j ≤ r.size → Ev (fun k => bonsairef03_Reader_Fix.l0 k r (valL ((numsOf r).drop j)) ((j : Int) - 1) s a e) (fixV r, s, a, e)
  | 0, _ => by
    refine Ev.succ ?_
    simp only [bonsairef03_Reader_Fix.l0, if_neg (show ¬ (((0 : Nat) : Int) - 1 ≥ 0) by omega), List.drop_zero]
    exact Ev.now _
  | j + 1, hj => by
    refine Ev.succ ?_
    have hd : ∀ x ∈ (numsOf r).drop (j + 1), 0 ≤ x ∧ x < 256 := fun x hx => numsOf_range r x (List.mem_of_mem_drop hx)
    have hv := valL_range _ hd
    have hp := pow_mono (show ((numsOf r).drop (j + 1)).length ≤ 7 by rw [List.length_drop, numsOf_length]; omega)
    simp only [Int.reducePow] at hp
    have hb := bt_range r (j : Int)
    have hdrop : (numsOf r).drop j = bt r (j : Int) :: (numsOf r).drop (j + 1) := by
      rw [List.drop_eq_getElem_cons (by rw [numsOf_length]; omega)]
      simp [numsOf]
    have ih := refFixL r h s a e j (by omega)
    rw [hdrop] at ih
    simp only [valL] at ih
    have e1 : (((j + 1 : Nat) : Int) - 1) = (j : Int) := by omega
    simp only [bonsairef03_Reader_Fix.l0, e1, if_pos (show (j : Int) ≥ 0 by omega), if_pos (show (0 : Int) ≤ (j : Int) by omega), if_pos (show (j : Int) < (r.size : Int) by omega), w64 (show -9223372036854775808 ≤ (j : Int) - 1 by omega) (by omega)]
    rw [pack_wraps_u64 (256 * _) (by omega) (by omega), pack_wraps_u64 (bt r j) (by omega) (by omega), pack_wraps_u64 _ (by omega) (by omega)]
    rw [Int.add_comm] at ih
    exact ih
theorem fix_sim {S r : ByteArray} {a : Int} (h : Sim S a r) (h8 : 8 ≤ r.size) : pack_Reader_Fix.f r 0 = some (fixV (r.extract 0 8), r.extract 8 r.size, 0) ∧ Ev (fun k => bonsairef03_Reader_Fix.f k S a 0) (fixV (r.extract 0 8), S, a + 8, 0) := by
  obtain ⟨t1, t2⟩ := h.take 8 (by omega) (by omega)
  have hs : (r.extract 0 8).size = 8 := size_take h8
  constructor
  · unfold pack_Reader_Fix.f
    rw [t1]
    simp only [Option.bind_some]
    rw [foldF_is _ (by show (r.extract 0 8).size ≤ 8; omega)]
    rfl
  · unfold bonsairef03_Reader_Fix.f
    refine Ev.bind (Ev.all 1 t2) ?_
    have := refFixL (r.extract 0 8) (by omega) S (a + 8) 0 8 (by omega)
    rw [show (numsOf (r.extract 0 8)).drop 8 = [] from List.drop_of_length_le (by rw [numsOf_length]; omega)] at this
    simp only [show (r.extract 0 (Int.toNat 8)).size = 8 from hs]
    rw [show wrap64 (((8 : Nat) : Int) - 1) = ((8 : Nat) : Int) - 1 from w64 (by omega) (by omega)]
    exact this
theorem fix_short {S r : ByteArray} {a : Int} (h : Sim S a r) (h8 : r.size < 8) : (∃ u r', pack_Reader_Fix.f r 0 = some (u, r', 2)) ∧ ∃ u a', Ev (fun k => bonsairef03_Reader_Fix.f k S a 0) (u, S, a', 2) := by
  have hz := h.size
  have hlo := h.lo
  have hbig := h.big
  constructor
  · unfold pack_Reader_Fix.f pack_Reader_Take.f
    rw [if_pos rfl, if_neg (by omega)]
    exact ⟨_, _, rfl⟩
  · unfold bonsairef03_Reader_Fix.f
    refine ⟨0, a, Ev.bind (a := ((⟨#[]⟩ : ByteArray), S, a, 2)) (Ev.all 1 fun k hk => ?_) ?_⟩
    rotate_left
    · refine Ev.succ ?_
      simp only [bonsairef03_Reader_Fix.l0]
      simp only [if_neg (show ¬ wrap64 (((⟨#[]⟩ : ByteArray).size : Int) - 1) ≥ 0 by decide +kernel)]
      exact Ev.now _
    · obtain ⟨k, rfl⟩ : ∃ m, k = m + 1 := ⟨k - 1, by omega⟩
      unfold bonsairef03_Reader_Take.f
      rw [if_pos rfl, if_neg (by omega), w64 (show -9223372036854775808 ≤ (S.size : Int) - a by omega) (by omega)]
      simp only [bonsairef03_Reader_Take.j0]
      rw [if_pos (by simp; omega)]
end Go.Proofs.Ytfgnjndfnijjoaa.RowsB
end
section
namespace Go.Proofs.Ytfgnjndfnijjoaa.RowsC
set_option linter.unusedSimpArgs false
set_option linter.unusedVariables false
open Go.RowKit Go.Proofs.Ytfgnjndfnijjoaa.Print Go.Proofs.YtfgnjndfnijjoaaW.PrintWords Go.Proofs.YtfgnjndfnijjoaaW.PrintLast Go.Proofs.YtfgnjndfnijjoaaW.PrintMore Go.Proofs.Ytfgnjndfnijjoaa.LibA Go.Proofs.Ytfgnjndfnijjoaa.LibB Go.Proofs.Ytfgnjndfnijjoaa.LibC Go.Proofs.Ytfgnjndfnijjoaa.LibD Go.Proofs.Ytfgnjndfnijjoaa.LibE Go.Proofs.Ytfgnjndfnijjoaa.LibF Go.Proofs.Ytfgnjndfnijjoaa.LibG Go.Proofs.Ytfgnjndfnijjoaa.RowsA Go.Proofs.Ytfgnjndfnijjoaa.RowsB
theorem u64_range (n : Int) : 0 ≤ IntKind.u64.wrap n ∧ IntKind.u64.wrap n < 18446744073709551616 := by
  have : IntKind.u64.wrap n = n % 18446744073709551616 := by simp [IntKind.wrap, IntKind.bits, IntKind.signed]
  omega
def headB (m : Mv) : ByteArray := ((putB (IntKind.u64.wrap m.f0.f0) ++ putB (IntKind.u64.wrap m.f0.f1)) ++ putB (IntKind.u64.wrap m.f1)) ++ putB (IntKind.u64.wrap m.f2)
def oneB (m : Mv) : ByteArray := (headB m ++ (putB m.f3.size ++ m.f3)) ++ fixB m.f4
theorem headB_size (m : Mv) : 4 ≤ (headB m).size ∧ (headB m).size ≤ 40 := by
  have h0 := putB_size (IntKind.u64.wrap m.f0.f0)
  have h1 := putB_size (IntKind.u64.wrap m.f0.f1)
  have h2 := putB_size (IntKind.u64.wrap m.f1)
  have h3 := putB_size (IntKind.u64.wrap m.f2)
  unfold headB
  simp only [ByteArray.size_append]
  omega
theorem oneB_size (m : Mv) : (oneB m).size = (headB m).size + ((putB m.f3.size).size + m.f3.size) + 8 := by
  unfold oneB
  simp only [ByteArray.size_append, fixB_size]
theorem FB_range {b : Nat} {x : Int} (h : FB b x) : 0 ≤ x ∧ x < 18446744073709551616 := by
  have h1 := h.lt
  have h2 := h.eq
  unfold canonF at h2
  split at h2 <;> omega
theorem wordPut_is (s : ByteArray) (hs : s.size ≤ 140737488351232) : Ev (fun k => word_Put.f k s) (putB s.size ++ s) ∧ Ev (fun k => bonsairef04_Put.f k s) (putB s.size ++ s) :=
  ⟨Ev.all 10 fun k hk => (wordPut s hs k hk).1, Ev.all 10 fun k hk => by rw [(wordPut s hs k hk).2]; exact (wordPut s hs k hk).1⟩
theorem empty_app (a : ByteArray) : ByteArray.empty ++ a = a := by simp
theorem rowsOne_is (m : Mv) (hm : Sane m) (hn : m.f3.size ≤ 1000000) : Ev (fun k => rows_One.f k m.f0.f0 m.f0.f1 m.f1 m.f2 m.f3 m.f4) (oneB m) ∧ Ev (fun k => bonsairef21_One.f k m.f0.f0 m.f0.f1 m.f1 m.f2 m.f3 m.f4) (oneB m) := by
  obtain ⟨hs, _, _, _, _, b, hb⟩ := hm
  have hr := FB_range hb
  have r0 := u64_range m.f0.f0
  have r1 := u64_range m.f0.f1
  have r2 := u64_range m.f1
  have r3 := u64_range m.f2
  have z0 := putB_size (IntKind.u64.wrap m.f0.f0)
  have z1 := putB_size (IntKind.u64.wrap m.f0.f1)
  have z2 := putB_size (IntKind.u64.wrap m.f1)
  have z3 := putB_size (IntKind.u64.wrap m.f2)
  have z4 := putB_size (m.f3.size : Int)
  constructor
  · unfold rows_One.f
    refine Ev.bind (a := headB m) ?_ ?_
    · unfold rows_One.g
      refine Ev.bind (put_is _ r0.1 r0.2) ?_
      simp only [if_pos (show ByteArray.empty.size + (putB (IntKind.u64.wrap m.f0.f0)).size ≤ 140737488355328 by rw [show ByteArray.empty.size = 0 from rfl]; omega), empty_app]
      unfold rows_One.g
      refine Ev.bind (put_is _ r1.1 r1.2) ?_
      simp only [if_pos (show (putB (IntKind.u64.wrap m.f0.f0)).size + (putB (IntKind.u64.wrap m.f0.f1)).size ≤ 140737488355328 by omega)]
      unfold rows_One.g
      refine Ev.bind (put_is _ r2.1 r2.2) ?_
      simp only [if_pos (show (putB (IntKind.u64.wrap m.f0.f0) ++ putB (IntKind.u64.wrap m.f0.f1)).size + (putB (IntKind.u64.wrap m.f1)).size ≤ 140737488355328 by rw [ByteArray.size_append]; omega)]
      unfold rows_One.g
      refine Ev.bind (put_is _ r3.1 r3.2) ?_
      simp only [if_pos (show ((putB (IntKind.u64.wrap m.f0.f0) ++ putB (IntKind.u64.wrap m.f0.f1)) ++ putB (IntKind.u64.wrap m.f1)).size + (putB (IntKind.u64.wrap m.f2)).size ≤ 140737488355328 by simp only [ByteArray.size_append]; omega)]
      unfold rows_One.g
      exact Ev.now _
    · refine Ev.bind (wordPut_is m.f3 hs).1 ?_
      have hh := headB_size m
      simp only [if_pos (show (headB m).size + (putB m.f3.size ++ m.f3).size ≤ 140737488355328 by rw [ByteArray.size_append]; omega)]
      refine Ev.bind (fixed_is m.f4) ?_
      simp only [if_pos (show (headB m ++ (putB m.f3.size ++ m.f3)).size + (fixB m.f4).size ≤ 140737488355328 by simp only [ByteArray.size_append, fixB_size]; omega)]
      exact Ev.now _
  · unfold bonsairef21_One.f
    refine Ev.bind (refPut_is _ r0.1 r0.2) ?_
    refine Ev.bind (refPut_is _ r1.1 r1.2) ?_
    simp only [if_pos (show (putB (IntKind.u64.wrap m.f0.f0)).size + (putB (IntKind.u64.wrap m.f0.f1)).size ≤ 9223372036854775807 by omega)]
    refine Ev.bind (refPut_is _ r2.1 r2.2) ?_
    simp only [if_pos (show (putB (IntKind.u64.wrap m.f0.f0) ++ putB (IntKind.u64.wrap m.f0.f1)).size + (putB (IntKind.u64.wrap m.f1)).size ≤ 9223372036854775807 by rw [ByteArray.size_append]; omega)]
    refine Ev.bind (refPut_is _ r3.1 r3.2) ?_
    simp only [if_pos (show ((putB (IntKind.u64.wrap m.f0.f0) ++ putB (IntKind.u64.wrap m.f0.f1)) ++ putB (IntKind.u64.wrap m.f1)).size + (putB (IntKind.u64.wrap m.f2)).size ≤ 9223372036854775807 by simp only [ByteArray.size_append]; omega)]
    refine Ev.bind (wordPut_is m.f3 hs).2 ?_
    simp only [if_pos (show ((((putB (IntKind.u64.wrap m.f0.f0) ++ putB (IntKind.u64.wrap m.f0.f1)) ++ putB (IntKind.u64.wrap m.f1)) ++ putB (IntKind.u64.wrap m.f2))).size + (putB m.f3.size ++ m.f3).size ≤ 9223372036854775807 by simp only [ByteArray.size_append]; omega), bonsairef01_Bits.f, Option.bind_some]
    refine Ev.bind (refFixed_is m.f4 hr.1 hr.2) ?_
    simp only [if_pos (show ((((((putB (IntKind.u64.wrap m.f0.f0) ++ putB (IntKind.u64.wrap m.f0.f1)) ++ putB (IntKind.u64.wrap m.f1)) ++ putB (IntKind.u64.wrap m.f2))) ++ (putB m.f3.size ++ m.f3))).size + (fixB m.f4).size ≤ 9223372036854775807 by simp only [ByteArray.size_append, fixB_size]; omega)]
    exact Ev.now _
def flat : List Mv → ByteArray
  | [] => ByteArray.empty
  | m :: l => oneB m ++ flat l
theorem flat_size (l : List Mv) (h : ∀ m ∈ l, m.f3.size ≤ 100) : (flat l).size ≤ 200 * l.length := by
  induction l with
  | nil => simp [flat]
  | cons m l ih =>
    have h1 := h m List.mem_cons_self
    have h2 := ih fun x hx => h x (List.mem_cons_of_mem _ hx)
    have h3 := headB_size m
    have h4 := putB_size (m.f3.size : Int)
    simp only [flat, ByteArray.size_append, oneB_size, List.length_cons]
    omega
def beginB : ByteArray := ⟨#[66, 78, 83, 73, 1]⟩
theorem beginB_size : beginB.size = 5 := rfl
def fileB (l : List Mv) : ByteArray := (beginB ++ putB l.length) ++ flat l
theorem encG (l : List Mv) (hs : ∀ m ∈ l, Sane m) (hn : ∀ m ∈ l, m.f3.size ≤ 100) : ∀ (acc : ByteArray), acc.size + 200 * l.length ≤ 140737488355328 → Ev (fun k => rows_Encode.g k l acc) (some (acc ++ flat l)).get! := by
  induction l with
  | nil =>
    intro acc h
    unfold rows_Encode.g
    simp only [flat]
    rw [show acc ++ ByteArray.empty = acc by simp]
    exact Ev.now _
  | cons m l ih =>
    intro acc h
    have h1 := hn m List.mem_cons_self
    have h3 := headB_size m
    have h4 := putB_size (m.f3.size : Int)
    have h5 := oneB_size m
    simp only [List.length_cons] at h
    unfold rows_Encode.g
    refine Ev.bind (rowsOne_is m (hs m List.mem_cons_self) (by omega)).1 ?_
    simp only [if_pos (show acc.size + (oneB m).size ≤ 140737488355328 by omega)]
    have := ih (fun x hx => hs x (List.mem_cons_of_mem _ hx)) (fun x hx => hn x (List.mem_cons_of_mem _ hx)) (acc ++ oneB m) (by rw [ByteArray.size_append]; omega)
    simp only [flat]
    rw [← ByteArray.append_assoc]
    exact this
theorem may_names {l : List Mv} (h : MayP l) : ∀ m ∈ l, m.f3.size ≤ 100 := fun m hm => by have := (h.one m hm).nm; omega
theorem encode_is (l : List Mv) (hl : l.length ≤ 9223372036854775807) (hs : ∀ m ∈ l, Sane m) : Ev (fun k => rows_Encode.f k l) (if MayP l then (fileB l, 0) else (ByteArray.empty, 1)) := by
  unfold rows_Encode.f
  refine Ev.bind (may_is l hl) ?_
  by_cases h : MayP l
  · simp only [if_pos h, decide_eq_true h, if_true]
    have hf := h.few
    have hp := putB_size (l.length : Int)
    refine Ev.bind (put_is _ (by omega) (by omega)) ?_
    simp only [if_pos (show rows_Encode.b.size + (putB l.length).size ≤ 140737488355328 by rw [show rows_Encode.b.size = 5 from rfl]; omega)]
    exact Ev.bind (encG l hs (may_names h) (beginB ++ putB l.length) (by rw [ByteArray.size_append, beginB_size]; omega)) (Ev.now _)
  · simp only [if_neg h, decide_eq_false h, Bool.false_eq_true, if_false]
    exact Ev.now _
end Go.Proofs.Ytfgnjndfnijjoaa.RowsC
end
section
namespace Go.Proofs.Ytfgnjndfnijjoaa.RowsL
set_option linter.unusedSimpArgs false
set_option linter.unusedVariables false
open Go.RowKit Go.Proofs.Ytfgnjndfnijjoaa.Print Go.Proofs.YtfgnjndfnijjoaaW.PrintWords Go.Proofs.YtfgnjndfnijjoaaW.PrintLast Go.Proofs.YtfgnjndfnijjoaaW.PrintMore Go.Proofs.Ytfgnjndfnijjoaa.LibA Go.Proofs.Ytfgnjndfnijjoaa.LibB Go.Proofs.Ytfgnjndfnijjoaa.LibC Go.Proofs.Ytfgnjndfnijjoaa.LibD Go.Proofs.Ytfgnjndfnijjoaa.LibE Go.Proofs.Ytfgnjndfnijjoaa.LibF Go.Proofs.Ytfgnjndfnijjoaa.LibG Go.Proofs.Ytfgnjndfnijjoaa.RowsA Go.Proofs.Ytfgnjndfnijjoaa.RowsB Go.Proofs.Ytfgnjndfnijjoaa.RowsC
theorem live21 : bonsailaw21_live.f 60 = some true := by decide +kernel
theorem live_ev : Ev (fun k => bonsailaw21_live.f k) true := Ev.of bonsailaw21_live.mono live21
def QM (x : Mv) : Prop := ((((Lit.int .i64 x.f0.f0).wf = true) ∧ ((Lit.int .i64 x.f0.f1).wf = true)) ∧ ((Lit.int .i64 x.f1).wf = true) ∧ ((Lit.int .i64 x.f2).wf = true) ∧ (x.f3.size ≤ maxLen) ∧ (∃ b, FB b x.f4))
theorem wf_i64 {n : Int} (h : (Lit.int .i64 n).wf = true) : -9223372036854775808 ≤ n ∧ n ≤ 9223372036854775807 := by
  simp [Lit.wf, IntKind.min, IntKind.max, IntKind.bits, IntKind.signed] at h
  omega
theorem sane_of {x : Mv} (h : QM x) (hn : x.f3.size ≤ 100) : Sane x := ⟨by omega, wf_i64 h.1.1, wf_i64 h.1.2, wf_i64 h.2.1, wf_i64 h.2.2.1, h.2.2.2.2⟩
end Go.Proofs.Ytfgnjndfnijjoaa.RowsL
end
section
namespace Go.Proofs.Ytfgnjndfnijjoaa.RowsD
set_option linter.unusedSimpArgs false
set_option linter.unusedVariables false
open Go.RowKit Go.Proofs.Ytfgnjndfnijjoaa.Print Go.Proofs.YtfgnjndfnijjoaaW.PrintWords Go.Proofs.YtfgnjndfnijjoaaW.PrintLast Go.Proofs.YtfgnjndfnijjoaaW.PrintMore Go.Proofs.Ytfgnjndfnijjoaa.LibA Go.Proofs.Ytfgnjndfnijjoaa.LibB Go.Proofs.Ytfgnjndfnijjoaa.LibC Go.Proofs.Ytfgnjndfnijjoaa.LibD Go.Proofs.Ytfgnjndfnijjoaa.LibE Go.Proofs.Ytfgnjndfnijjoaa.LibF Go.Proofs.Ytfgnjndfnijjoaa.LibG Go.Proofs.Ytfgnjndfnijjoaa.RowsA Go.Proofs.Ytfgnjndfnijjoaa.RowsB Go.Proofs.Ytfgnjndfnijjoaa.RowsC Go.Proofs.Ytfgnjndfnijjoaa.RowsL
def canonB (u : Int) : Bool := if u / 4503599627370496 % 2048 = 2047 then (if u % 4503599627370496 = 0 then true else u == 9221120237041090560) else true
theorem canon_is (u : Int) (h0 : 0 ≤ u) (h1 : u < 18446744073709551616) : bits_Canon.f u = some (canonB u) ∧ bonsairef01_Canon.f u = some (canonB u) := by
  unfold bits_Canon.f bonsairef01_Canon.f canonB bonsairef01_None.f
  rw [mask_e u h0 h1, mask_m u h0 h1, Int.tmod_eq_emod_of_nonneg (by omega), Int.tmod_eq_emod_of_nonneg h0]
  simp only [Option.bind_some]
  constructor <;> (repeat' split) <;> rfl
theorem canon_fix (u : Int) (h0 : 0 ≤ u) (h1 : u < 18446744073709551616) (h : canonB u = true) : ((canonF u.toNat : Nat) : Int) = u := by
  unfold canonB at h
  unfold canonF
  split at h
  · rename_i he
    split at h
    · rw [if_neg (by omega)]; omega
    · have : u = 9221120237041090560 := by simpa using h
      subst this
      decide
  · rename_i he
    rw [if_neg (by omega)]; omega
def RankP (m : Mv) : Prop := FB m.f4.toNat m.f4
theorem float_is (u : Int) (h0 : 0 ≤ u) (h1 : u < 18446744073709551616) : bits_Float.f u = some ((canonF u.toNat : Nat) : Int) ∧ bonsairef01_Float.f u = some ((canonF u.toNat : Nat) : Int) := by
  unfold bits_Float.f bonsairef01_Float.f
  rw [if_pos ⟨h0, h1⟩]
  exact ⟨rfl, rfl⟩
theorem FB_canon (u : Int) (h0 : 0 ≤ u) (h1 : u < 18446744073709551616) : FB u.toNat ((canonF u.toNat : Nat) : Int) := ⟨by omega, rfl⟩
def zMv : Mv := z30
instance (a b : Mv) : Decidable (BefP a b) := by unfold BefP; infer_instance
def Onward (S : ByteArray) (n : Int) (out : List Mv) (i : Int) (m : Mv) (a' : Int) (R : List Mv × Int) : Prop :=
  if 0 < i ∧ ¬ BefP (rdM out (i - 1)) m then R = ([], 12) else Ev (fun k => bonsairef21_Decode.l0 k S n (out ++ [m]) (i + 1) S a' 0) R
structure Got (S r : ByteArray) (a : Int) (m : Mv) (r' : ByteArray) (a' : Int) : Prop where
  sim : Sim S a' r'
  one : OneP m
  rank : RankP m
  bytes : r = oneB m ++ r'
  prog : Ev (fun k => rdMove.f k S r 0) (m, 0, r', 0)
set_option maxHeartbeats 4000000 in
theorem step (S r : ByteArray) (a : Int) (h : Sim S a r) :
    (∃ e, e ≠ 0 ∧ (∃ m r' e', Ev (fun k => rdMove.f k S r 0) (m, e, r', e')) ∧ ∀ n out i, 0 ≤ i → i < n → n ≤ 2000 → Ev (fun k => bonsairef21_Decode.l0 k S n out i S a 0) ([], e)) ∨
    (∃ m r' a', Got S r a m r' a' ∧ ∀ n out i R, 0 ≤ i → i < n → n ≤ 2000 → (out.length : Int) = i → Onward S n out i m a' R → Ev (fun k => bonsairef21_Decode.l0 k S n out i S a 0) R) := by
  obtain ⟨v1, r1, e1, a1, p1, q1, S1, lo1, hi1, k1, _, l1, x1⟩ := h.num 0
  obtain ⟨v2, r2, e2, a2, p2, q2, S2, lo2, hi2, k2, _, l2, x2⟩ := S1.num e1
  obtain ⟨v3, r3, e3, a3, p3, q3, S3, lo3, hi3, k3, _, l3, x3⟩ := S2.num e2
  obtain ⟨v4, r4, e4, a4, p4, q4, S4, lo4, hi4, k4, _, l4, x4⟩ := S3.num e3
  obtain ⟨well, hwell⟩ : ∃ b : Bool, b = ((((true && decide (v1 ≤ 9223372036854775807)) && decide (v2 ≤ 9223372036854775807)) && decide (v3 ≤ 9223372036854775807)) && decide (v4 ≤ 9223372036854775807)) := ⟨_, rfl⟩
  have hfour : rdFour.f r 0 = some ([wrap64 v1, wrap64 v2, wrap64 v3, wrap64 v4], well, r4, e4) := by
    unfold rdFour.f
    simp only [rdFour.go, p1, p2, p3, p4, Option.bind_some, List.nil_append, List.cons_append, hwell]
  have hz4 := S4.size
  have hb4 := S4.big
  have hlo4 := S4.lo
  have hw4 : wrap64 ((S.size : Int) - (r4.size : Int)) = a4 := by rw [w64 (by omega) (by omega)]; omega
  have q1' := Ev.all 30 q1
  have q2' := Ev.all 30 q2
  have q3' := Ev.all 30 q3
  have q4' := Ev.all 30 q4
  by_cases he4 : e4 = 0
  rotate_left
  · left
    refine ⟨e4, he4, ⟨zMv, r4, e4, ?_⟩, fun n out i h0 h1 h2 => ?_⟩
    · unfold rdMove.f
      simp only [hfour, Option.bind_some, ne_eq, he4, not_false_eq_true, if_true]
      exact Ev.now _
    · refine Ev.succ ?_
      simp only [bonsairef21_Decode.l0, if_pos (show i < wrap64 n by rw [w64 (by omega) (by omega)]; exact h1)]
      refine Ev.bind q1' (Ev.bind q2' (Ev.bind q3' (Ev.bind q4' ?_)))
      simp only [if_neg he4]
      exact Ev.now _
  subst he4
  obtain ⟨t, b, et, ht, htz, hte⟩ := take_both S hb4 a4 64 (by omega) (by omega)
  have ht1 : Ev (fun k => word_Take.f k S a4 64) (t, b, et) := Ev.all (S.size + 60) fun k hk => (ht k hk).1
  have ht2 : Ev (fun k => bonsairef04_Take.f k S a4 64) (t, b, et) := Ev.all (S.size + 60) fun k hk => (ht k hk).2
  by_cases het : et = 0
  rotate_left
  · left
    refine ⟨et, het, ⟨zMv, r4, 0, ?_⟩, fun n out i h0 h1 h2 => ?_⟩
    · unfold rdMove.f
      simp only [hfour, Option.bind_some, ne_eq, not_true_eq_false, if_false, hw4]
      refine Ev.bind ht1 ?_
      simp only [ne_eq, het, not_false_eq_true, if_true]
      exact Ev.now _
    · refine Ev.succ ?_
      simp only [bonsairef21_Decode.l0, if_pos (show i < wrap64 n by rw [w64 (by omega) (by omega)]; exact h1)]
      refine Ev.bind q1' (Ev.bind q2' (Ev.bind q3' (Ev.bind q4' ?_)))
      simp only [if_true]
      refine Ev.bind ht2 ?_
      simp only [if_neg het]
      exact Ev.now _
  subst het
  obtain ⟨_, v, nt, hvl, hn0, hn1, hnt, hab, hbS, htb, hnum, hv⟩ := hte rfl
  obtain ⟨tk, _⟩ := S4.take (b - a4) (by omega) (by omega)
  have S5 := S4.go (b - a4) (by omega) (by omega)
  rw [show a4 + (b - a4) = b by omega] at S5
  obtain ⟨r5, hr5⟩ : ∃ x, x = r4.extract (b - a4).toNat r4.size := ⟨_, rfl⟩
  rw [← hr5] at S5 tk
  have hwb : wrap64 (b - a4) = b - a4 := w64 (by omega) (by omega)
  by_cases h8 : r5.size < 8
  · left
    obtain ⟨⟨u, r', hf⟩, u2, a'', hf2⟩ := fix_short S5 h8
    refine ⟨2, by decide, ⟨zMv, r', 2, ?_⟩, fun n out i h0 h1 h2 => ?_⟩
    · unfold rdMove.f
      simp only [hfour, Option.bind_some, ne_eq, not_true_eq_false, if_false, hw4]
      refine Ev.bind ht1 ?_
      simp only [ne_eq, not_true_eq_false, if_false, hwb, tk, Option.bind_some, hf]
      exact Ev.now _
    · refine Ev.succ ?_
      simp only [bonsairef21_Decode.l0, if_pos (show i < wrap64 n by rw [w64 (by omega) (by omega)]; exact h1)]
      refine Ev.bind q1' (Ev.bind q2' (Ev.bind q3' (Ev.bind q4' ?_)))
      simp only [if_true]
      refine Ev.bind ht2 ?_
      simp only [if_true]
      refine Ev.bind hf2 ?_
      exact Ev.now _
  obtain ⟨hf, hf2⟩ := fix_sim S5 (by omega)
  have S6 := S5.go 8 (by omega) (by omega)
  obtain ⟨u, hu⟩ : ∃ x, x = fixV (r5.extract 0 8) := ⟨_, rfl⟩
  have hur := fixV_range (r5.extract 0 8) (size_take (by omega))
  have hu8 := fixB_val (r5.extract 0 8) (size_take (by omega))
  rw [← hu] at hf hf2 hur hu8
  obtain ⟨r6, hr6⟩ : ∃ x, x = r5.extract 8 r5.size := ⟨_, rfl⟩
  rw [show (8 : Int).toNat = 8 from rfl, ← hr6] at S6
  rw [← hr6] at hf
  obtain ⟨c1, c2⟩ := canon_is u hur.1 hur.2
  obtain ⟨f1, f2⟩ := float_is u hur.1 hur.2
  have hfb := FB_canon u hur.1 hur.2
  obtain ⟨fl, hfl⟩ : ∃ x, x = ((canonF u.toNat : Nat) : Int) := ⟨_, rfl⟩
  rw [← hfl] at f1 f2 hfb
  have o1 := one_is ⟨⟨wrap64 v1, wrap64 v2⟩, wrap64 v3, wrap64 v4, t, fl⟩
  have o2 := refOne_is ⟨⟨wrap64 v1, wrap64 v2⟩, wrap64 v3, wrap64 v4, t, fl⟩
  dsimp only at o1 o2
  obtain ⟨m, hm⟩ : ∃ x : Mv, x = ⟨⟨wrap64 v1, wrap64 v2⟩, wrap64 v3, wrap64 v4, t, fl⟩ := ⟨_, rfl⟩
  rw [← hm] at o1 o2
  have hbad : rdMove.bad well u (wrap64 v1) (wrap64 v2) (wrap64 v3) (wrap64 v4) t fl = some (!(well && canonB u && decide (OneP m))) := by
    unfold rdMove.bad
    cases well
    · rfl
    · rw [if_neg (by decide), c1]
      simp only [Option.bind_some]
      cases canonB u
      · rfl
      · rw [if_neg (by decide), o1]
        simp
  have hprog : Ev (fun k => rdMove.f k S r 0) (if (well && canonB u && decide (OneP m)) = true then (m, 0, r6, 0) else (zMv, 5, r6, 0)) := by
    unfold rdMove.f
    simp only [hfour, Option.bind_some, ne_eq, not_true_eq_false, if_false, hw4]
    refine Ev.bind ht1 ?_
    simp only [ne_eq, not_true_eq_false, if_false, hwb, tk, Option.bind_some, hf, f1, List.getD_cons_zero, List.getD_cons_succ, hbad]
    by_cases hg : (well && canonB u && decide (OneP m)) = true
    · simp only [hg, Bool.not_true, Bool.false_eq_true, if_false, if_true]
      rw [← hm]
      exact Ev.now _
    · simp only [hg, Bool.not_false, Bool.false_eq_true, if_false, if_true]
      exact Ev.now _
  have href : ∀ n out i R, 0 ≤ i → i < n → n ≤ 2000 → Ev (fun k => bonsairef21_Decode.j1 k S n out i v1 v2 v3 v4 t u (!(canonB u && well)) S (b + 8) 0) R → Ev (fun k => bonsairef21_Decode.l0 k S n out i S a 0) R := fun n out i R h0 h1 h2 hj => by
    refine Ev.succ ?_
    simp only [bonsairef21_Decode.l0, if_pos (show i < wrap64 n by rw [w64 (by omega) (by omega)]; exact h1)]
    refine Ev.bind q1' (Ev.bind q2' (Ev.bind q3' (Ev.bind q4' ?_)))
    simp only [if_true]
    refine Ev.bind ht2 ?_
    simp only [if_true]
    refine Ev.bind hf2 ?_
    simp only [if_true, c2, Option.bind_some]
    cases hc : canonB u
    · rw [hc] at hj
      simp only [Bool.false_eq_true, if_false]
      exact hj
    · rw [hc] at hj
      simp only [if_true]
      by_cases w1 : v1 ≥ 9223372036854775808
      · simp only [if_pos w1]
        rw [show well = false by rw [hwell, decide_eq_false (show ¬ v1 ≤ 9223372036854775807 by omega)]; rfl] at hj
        exact hj
      simp only [if_neg w1]
      by_cases w2 : v2 ≥ 9223372036854775808
      · simp only [if_pos w2]
        rw [show well = false by rw [hwell, decide_eq_false (show ¬ v2 ≤ 9223372036854775807 by omega)]; simp] at hj
        exact hj
      simp only [if_neg w2]
      by_cases w3 : v3 ≥ 9223372036854775808
      · simp only [if_pos w3]
        rw [show well = false by rw [hwell, decide_eq_false (show ¬ v3 ≤ 9223372036854775807 by omega)]; simp] at hj
        exact hj
      simp only [if_neg w3]
      rw [show (!(true && well)) = decide (v4 ≥ 9223372036854775808) by
        rw [hwell, decide_eq_true (show v1 ≤ 9223372036854775807 by omega), decide_eq_true (show v2 ≤ 9223372036854775807 by omega), decide_eq_true (show v3 ≤ 9223372036854775807 by omega)]
        by_cases w4 : v4 ≤ 9223372036854775807
        · rw [decide_eq_true w4, decide_eq_false (by omega)]; rfl
        · rw [decide_eq_false w4, decide_eq_true (by omega)]; rfl] at hj
      exact hj
  by_cases hg : (well && canonB u && decide (OneP m)) = true
  rotate_left
  · left
    rw [if_neg hg] at hprog
    refine ⟨5, by decide, ⟨zMv, r6, 0, hprog⟩, fun n out i h0 h1 h2 => href n out i _ h0 h1 h2 ?_⟩
    refine Ev.succ ?_
    simp only [bonsairef21_Decode.j1]
    by_cases hcw : (canonB u && well) = true
    · simp only [hcw, Bool.not_true, Bool.false_eq_true, if_false, f2, Option.bind_some]
      refine Ev.bind o2 ?_
      have : decide (OneP m) = false := by
        cases hd : decide (OneP m)
        · rfl
        · rw [hd, Bool.and_comm well, hcw] at hg; exact absurd rfl hg
      simp only [this, Bool.false_eq_true, if_false]
      exact Ev.now _
    · simp only [Bool.eq_false_iff.mpr hcw, Bool.not_false, if_true]
      exact Ev.now _
  right
  rw [if_pos hg] at hprog
  simp only [Bool.and_eq_true, decide_eq_true_eq] at hg
  obtain ⟨⟨hgw, hgc⟩, hgo⟩ := hg
  have hws : v1 ≤ 9223372036854775807 ∧ v2 ≤ 9223372036854775807 ∧ v3 ≤ 9223372036854775807 ∧ v4 ≤ 9223372036854775807 := by
    rw [hwell] at hgw
    simp only [Bool.true_and, Bool.and_eq_true, decide_eq_true_eq] at hgw
    omega
  have hflu : fl = u := by rw [hfl]; exact canon_fix u hur.1 hur.2 hgc
  refine ⟨m, r6, b + 8, ⟨S6, hgo, ?_, ?_, hprog⟩, fun n out i R h0 h1 h2 h3 hon => href n out i _ h0 h1 h2 ?_⟩
  · show FB m.f4.toNat m.f4
    rw [hm]
    show FB fl.toNat fl
    rw [hflu]
    rw [hflu] at hfb
    exact hfb
  · have he3 : e3 = 0 := by
      by_cases h : e3 = 0
      · exact h
      · exact (k4 h).2.1.symm
    subst he3
    have he2 : e2 = 0 := by
      by_cases h : e2 = 0
      · exact h
      · exact (k3 h).2.1.symm
    subst he2
    have he1 : e1 = 0 := by
      by_cases h : e1 = 0
      · exact h
      · exact (k2 h).2.1.symm
    subst he1
    obtain ⟨b1, _, _⟩ := num_read_put _ _ _ p1
    obtain ⟨b2, _, _⟩ := num_read_put _ _ _ p2
    obtain ⟨b3, _, _⟩ := num_read_put _ _ _ p3
    obtain ⟨b4, _, _⟩ := num_read_put _ _ _ p4
    obtain ⟨b5, _, _⟩ := num_read_put _ _ _ hnum
    have b6 : S.extract v.toNat S.size = t ++ r5 := by
      have := take_drop (S.extract v.toNat S.size) nt.toNat (by rw [ByteArray.size_extract]; omega)
      rw [ByteArray.extract_extract, ByteArray.extract_extract] at this
      rw [← this, htb, S5.rest]
      congr 1
      · congr 1 <;> omega
      · congr 1
        · omega
        · rw [ByteArray.size_extract]; omega
    have b7 : r5 = fixB u ++ r6 := by
      rw [hu8, hr6]
      exact (take_drop r5 8 (by omega)).symm
    have w (x : Int) (h0 : 0 ≤ x) (h1 : x ≤ 9223372036854775807) : IntKind.u64.wrap (wrap64 x) = x := by rw [w64 (by omega) h1, pack_wraps_u64 x h0 (by omega)]
    have hmB : oneB m = ((((putB v1 ++ putB v2) ++ putB v3) ++ putB v4) ++ (putB nt ++ t)) ++ fixB u := by
      rw [hm]
      unfold oneB headB
      dsimp only
      rw [w v1 lo1 hws.1, w v2 lo2 hws.2.1, w v3 lo3 hws.2.2.1, w v4 lo4 hws.2.2.2, hnt, hflu]
    rw [hmB, b1, b2, b3, b4, S4.rest, b5, b6, b7]
    simp only [ByteArray.append_assoc]
  · refine Ev.succ ?_
    simp only [bonsairef21_Decode.j1]
    simp only [hgc, hgw, Bool.and_true, Bool.not_true, Bool.false_eq_true, if_false, f2, Option.bind_some]
    refine Ev.bind o2 ?_
    simp only [hgo, decide_true, if_true]
    unfold Onward at hon
    rw [← hm]
    by_cases hi0 : 0 < i
    · simp only [if_pos (show i > 0 from hi0), w64 (show -9223372036854775808 ≤ i - 1 by omega) (by omega), if_pos (show (0 : Int) ≤ i - 1 by omega), if_pos (show i - 1 < (out.length : Int) by omega), refBefore_is, Option.bind_some]
      by_cases hb : BefP (rdM out (i - 1)) m
      · rw [if_neg (fun h => h.2 hb)] at hon
        have hb' : beforeB (rdM out (i - 1)).f0.f0 (rdM out (i - 1)).f0.f1 (wrap64 v1) (wrap64 v2) = true := by
          have := hb
          unfold BefP at this
          rw [hm] at this
          exact this
        simp only [hb', if_true, if_pos (show out.length < 2513169434916 by omega), w64 (show -9223372036854775808 ≤ i + 1 by omega) (by omega)]
        exact hon
      · rw [if_pos ⟨hi0, hb⟩] at hon
        have hb' : ¬ beforeB (rdM out (i - 1)).f0.f0 (rdM out (i - 1)).f0.f1 (wrap64 v1) (wrap64 v2) = true := by
          intro h
          apply hb
          unfold BefP
          rw [hm]
          exact h
        simp only [if_neg hb']
        rw [hon]
        exact Ev.now _
    · rw [if_neg (fun h => hi0 h.1)] at hon
      simp only [if_neg (show ¬ i > 0 from hi0), if_pos (show out.length < 2513169434916 by omega), w64 (show -9223372036854775808 ≤ i + 1 by omega) (by omega)]
      exact hon
end Go.Proofs.Ytfgnjndfnijjoaa.RowsD
end
section
namespace Go.Proofs.Ytfgnjndfnijjoaa.RowsE
set_option linter.unusedSimpArgs false
set_option linter.unusedVariables false
open Go.RowKit Go.Proofs.Ytfgnjndfnijjoaa.Print Go.Proofs.YtfgnjndfnijjoaaW.PrintWords Go.Proofs.YtfgnjndfnijjoaaW.PrintLast Go.Proofs.YtfgnjndfnijjoaaW.PrintMore Go.Proofs.Ytfgnjndfnijjoaa.LibA Go.Proofs.Ytfgnjndfnijjoaa.LibB Go.Proofs.Ytfgnjndfnijjoaa.LibC Go.Proofs.Ytfgnjndfnijjoaa.LibD Go.Proofs.Ytfgnjndfnijjoaa.LibE Go.Proofs.Ytfgnjndfnijjoaa.LibF Go.Proofs.Ytfgnjndfnijjoaa.LibG Go.Proofs.Ytfgnjndfnijjoaa.RowsA Go.Proofs.Ytfgnjndfnijjoaa.RowsB Go.Proofs.Ytfgnjndfnijjoaa.RowsC Go.Proofs.Ytfgnjndfnijjoaa.RowsL Go.Proofs.Ytfgnjndfnijjoaa.RowsD
theorem rd_pred (l : List Mv) (j : Nat) (h : 0 < j) : rdM l ((j : Int) - 1) = rdM l ((j - 1 : Nat) : Int) := by
  rw [show ((j : Int) - 1) = ((j - 1 : Nat) : Int) by omega]
end Go.Proofs.Ytfgnjndfnijjoaa.RowsE
end
namespace Go.Proofs.Ytfgnjndfnijjoaa.RowsF
end Go.Proofs.Ytfgnjndfnijjoaa.RowsF
