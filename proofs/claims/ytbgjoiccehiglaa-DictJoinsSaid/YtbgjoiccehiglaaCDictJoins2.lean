/- Part 2 of what DictJoins stands on: merged by a program of this session out of its texts. -/
import Derived.Test.YtbgjoiccehiglaaCDictJoins1
section
namespace Go.Proofs.Ytbgjoiccehiglaa.Print
open Go.RowKit Go.Proofs.YtbgjoiccehiglaaW.PrintWords Go.Proofs.YtbgjoiccehiglaaW.PrintLast Go.Proofs.YtbgjoiccehiglaaW.PrintMore
attribute [local go_sem] max2_int min2_int max_two min_two max_three min_three max_four min_four
set_option linter.unusedVariables false
set_option linter.unusedSimpArgs false
attribute [local go_sem high] eqA53
mutual
def runs_Spread.j0 : Nat → List (S53) → Int → Bool → Option (List Int × Bool)
  | 0, _, _, _ => none
  | k + 1, x0, x1, x15 => if x15 = true then (some (([] : List Int), false)) else (runs_Spread.l0 k x1 ([] : List Int) x0 (x0.length : Int) 0)
def runs_Spread.l0 : Nat → Int → List Int → List (S53) → Int → Int → Option (List Int × Bool)
  | 0, _, _, _, _, _ => none
  | k + 1, x1, x6, x16, x17, x18 => if x18 < x17 then (if 0 ≤ x18 then (if x18 < (x16.length : Int) then (if ((rd_T53 x16 x18).f1) > (wrap64 (x1 - (x6.length : Int))) then (some (([] : List Int), false)) else ((slices_Repeat_uint64_uint64.f (([(rd_T53 x16 x18).f0] : List Int)) ((rd_T53 x16 x18).f1)).bind fun t275 => (if x6.length + t275.length < 17592186044416 then (runs_Spread.l0 k x1 (x6 ++ t275) x16 x17 (wrap64 (x18 + 1))) else (none)))) else (none)) else (none)) else (some (x6, true))
end
def runs_Spread.f (k : Nat) (l0 : List (S53)) (a1 : Int) : Option (List Int × Bool) := (runs_May.f k l0).bind fun t269 => (if t269 = true then (runs_Spread.j0 k l0 a1 (decide (a1 < 0))) else (runs_Spread.j0 k l0 a1 true))
theorem runs_Spread.mono_l : ∀ k, (∀ y0 y1 y2, LeO (runs_Spread.j0 k y0 y1 y2) (runs_Spread.j0 (k + 1) y0 y1 y2)) ∧ (∀ y0 y1 y2 y3 y4, LeO (runs_Spread.l0 k y0 y1 y2 y3 y4) (runs_Spread.l0 (k + 1) y0 y1 y2 y3 y4))
  | 0 => ⟨fun _ _ _ r h => by simp [runs_Spread.j0] at h, fun _ _ _ _ _ r h => by simp [runs_Spread.l0] at h⟩
  | k + 1 => by
    obtain ⟨ih0, ih1⟩ := runs_Spread.mono_l k
    refine ⟨?_, ?_⟩
    · intro y0 y1 y2
      unfold runs_Spread.j0
      repeat' first
      | (with_reducible exact ih0 _ _ _)
      | (with_reducible exact ih1 _ _ _ _ _)
      | (with_reducible exact runs_May.mono _ _)
      | (with_reducible exact LeO.refl _)
      | (with_reducible exact LeO.none _)
      | (with_reducible refine LeO.ite ?_ ?_)
      | (with_reducible refine LeO.bind ?_ (fun _ => ?_))
      | exact ih0 _ _ _
      | exact ih1 _ _ _ _ _
      | exact runs_May.mono _ _
      | exact LeO.none _
      | refine LeO.ite ?_ ?_
      | refine LeO.bind ?_ (fun _ => ?_)
    · intro y0 y1 y2 y3 y4
      unfold runs_Spread.l0
      repeat' first
      | (with_reducible exact ih0 _ _ _)
      | (with_reducible exact ih1 _ _ _ _ _)
      | (with_reducible exact runs_May.mono _ _)
      | (with_reducible exact LeO.refl _)
      | (with_reducible exact LeO.none _)
      | (with_reducible refine LeO.ite ?_ ?_)
      | (with_reducible refine LeO.bind ?_ (fun _ => ?_))
      | exact ih0 _ _ _
      | exact ih1 _ _ _ _ _
      | exact runs_May.mono _ _
      | exact LeO.none _
      | refine LeO.ite ?_ ?_
      | refine LeO.bind ?_ (fun _ => ?_)
theorem runs_Spread.mono : ∀ a0 a1 k, LeO (runs_Spread.f k a0 a1) (runs_Spread.f (k + 1) a0 a1) := by
  intro a0 a1 k
  obtain ⟨ih0, ih1⟩ := runs_Spread.mono_l k
  unfold runs_Spread.f
  repeat' first
      | (with_reducible exact ih0 _ _ _)
      | (with_reducible exact ih1 _ _ _ _ _)
      | (with_reducible exact runs_May.mono _ _)
      | (with_reducible exact LeO.refl _)
      | (with_reducible exact LeO.none _)
      | (with_reducible refine LeO.ite ?_ ?_)
      | (with_reducible refine LeO.bind ?_ (fun _ => ?_))
      | exact ih0 _ _ _
      | exact ih1 _ _ _ _ _
      | exact runs_May.mono _ _
      | exact LeO.none _
      | refine LeO.ite ?_ ?_
      | refine LeO.bind ?_ (fun _ => ?_)
set_option maxHeartbeats 8000000 in
set_option maxRecDepth 100000 in
theorem runs_Spread.calls (k : Nat) (A0 : Option Addr) (c0 : Nat) (l0 : List (S53)) (a1 : Int) (r1 : List Int) (r2 : Bool) (w : World) (hr0 : Kd.C k53 w A0 l0.length l0) (hc0 : l0.length ≤ c0) (h : runs_Spread.f k l0 a1 = some (r1, r2)) :
    Calls Try.prog 39 #[.slice A0 l0.length c0, .int .i64 a1] w fun e w' => ∃ v0_ : Value, e = .returned (.tuple #[v0_, .bool r2]) ∧ Kd.R (Kd.int .u64) 51 w' w.heap.size (fun _ => True) v0_ r1 ∧ Below w.heap.size w w' := by
  have hu53 := Try.underlying53
  have HR0 := Aside0.mk hr0
  have HC0 := Aside0.mk hc0
  clear hr0 hc0
  have HB := Aside0.mk (Below.refl w.heap.size w)
  have H : ((runs_May.f k l0).bind fun t269 => (if t269 = true then (runs_Spread.j0 k l0 a1 (decide (a1 < 0))) else (runs_Spread.j0 k l0 a1 true))) = some (r1, r2) := h
  clear h
  have HC3 := Aside0.mk H
  clear H
  go_enter Try.func39, Try.ntmps39
  go_upto_region 1 with (fail)
  go_cut [15] (fun v15 wc => ∃ (kq : Nat) (x15_2 : Bool), v15 = .bool x15_2 ∧ Aside0 (runs_Spread.j0 kq l0 a1 x15_2 = some (r1, r2)) ∧ Aside0 (kq ≤ k) ∧ Aside0 (Below w.heap.size w wc))
  case first =>
    have H := HC3.out
    clear HC3
    replace H := Option.bind_eq_some_iff.mp H
    obtain ⟨t269, A40, H⟩ := H
    replace H : (if t269 = true then (runs_Spread.j0 k l0 a1 (decide (a1 < 0))) else (runs_Spread.j0 k l0 a1 true)) = some (r1, r2) := H
    have A4 := Aside0.mk A40
    clear A40
    by_cases c5 : t269 = true
    · subst c5
      have H1 : (runs_Spread.j0 k l0 a1 (decide (a1 < 0))) = some (r1, r2) := by rw [if_pos rfl] at H; exact H
      clear H
      have H := H1
      clear H1
      have H' := Aside0.mk H
      clear H
      go_wp2_with (first | ((with_reducible refine gate_callee (f := 46) rfl ?_); refine goesL_ (some 10) rfl rfl Try.func46 (by kernel_rfl) rfl #[.slice A0 l0.length c0] rfl (by (try simp only [List.map_toArray, List.map_cons, List.map_nil]); first | done | rfl | (simp only [List.length_drop, List.length_take]; rfl)) ?_; (with_reducible refine (runs_May.calls k _ _ l0 true _ ?side1 ?side2 A4.out).mono ?_); (case side1 => repeat (first | exact (Kd.C_below HR0.out HB.out) | (with_reducible refine Kd.C_alloc ?_ _) | (with_reducible refine Kd.C_drewN ?_ _) | (with_reducible refine Kd.C_drew ?_))); (case side2 => exact HC0.out); rintro e w6 ⟨rfl, hb⟩; refine ⟨_, rfl, ?_⟩; have n0_ := Aside0.mk (below_step (by repeat (first | (with_reducible first | exact HB.out | apply below_alloc | apply pw_below_drewN | apply below_drew1) | exact HB.out)) hb); clear HB; have HB := n0_; clear n0_; (try clear hb); (try clear hb2); (try clear hk); (try clear hi)))
      go_meet
      case rel => exact ⟨_, (decide (a1 < 0)), (by first | rfl | (simp; done) | (simp [*]; done)), H', ⟨by first | omega | exact Nat.le_refl _⟩, ⟨by repeat (first | (with_reducible first | exact HB.out | apply below_alloc | apply pw_below_drewN | apply below_drew1) | exact HB.out)⟩⟩
    · replace c5 := Bool.eq_false_iff.mpr c5
      subst c5
      have H1 : (runs_Spread.j0 k l0 a1 true) = some (r1, r2) := by rw [if_neg (show ¬ (false = true) by decide)] at H; exact H
      clear H
      have H := H1
      clear H1
      have H' := Aside0.mk H
      clear H
      go_wp2_with (first | ((with_reducible refine gate_callee (f := 46) rfl ?_); refine goesL_ (some 10) rfl rfl Try.func46 (by kernel_rfl) rfl #[.slice A0 l0.length c0] rfl (by (try simp only [List.map_toArray, List.map_cons, List.map_nil]); first | done | rfl | (simp only [List.length_drop, List.length_take]; rfl)) ?_; (with_reducible refine (runs_May.calls k _ _ l0 false _ ?side1 ?side2 A4.out).mono ?_); (case side1 => repeat (first | exact (Kd.C_below HR0.out HB.out) | (with_reducible refine Kd.C_alloc ?_ _) | (with_reducible refine Kd.C_drewN ?_ _) | (with_reducible refine Kd.C_drew ?_))); (case side2 => exact HC0.out); rintro e w7 ⟨rfl, hb⟩; refine ⟨_, rfl, ?_⟩; have n0_ := Aside0.mk (below_step (by repeat (first | (with_reducible first | exact HB.out | apply below_alloc | apply pw_below_drewN | apply below_drew1) | exact HB.out)) hb); clear HB; have HB := n0_; clear n0_; (try clear hb); (try clear hb2); (try clear hk); (try clear hi)))
      go_meet
      case rel => exact ⟨_, (true), (by first | rfl | (simp; done) | (simp [*]; done)), H', ⟨by first | omega | exact Nat.le_refl _⟩, ⟨by repeat (first | (with_reducible first | exact HB.out | apply below_alloc | apply pw_below_drewN | apply below_drew1) | exact HB.out)⟩⟩
  case rest =>
    clear HC3
    try clear p2
    try clear c3
    try clear c4
    try clear c5
    obtain ⟨kq, x15_2, rfl, HA, HJ2, HB⟩ := hcut
    cases kq with
    | zero => exact absurd HA.out (by simp [runs_Spread.j0])
    | succ kj2 =>
      have H := HA.out
      clear HA
      simp only [runs_Spread.j0] at H
      by_cases c8 : x15_2 = true
      · subst c8
        have H1 : (some (([] : List Int), false)) = some (r1, r2) := by rw [if_pos rfl] at H; exact H
        clear H
        have H := H1
        clear H1
        simp only [Option.some.injEq, Prod.mk.injEq] at H
        obtain ⟨rfl, rfl⟩ := H
        go_wp2
        go_ret2
        exact ⟨_, by first | rfl | (simp [errW_none, errW_some] <;> rfl) | (simp [*, errW_none, errW_some] <;> rfl), by first | exact Kd.R_nil _ _ _ _ _ | exact Kd.N_nil _ _ _ _ _ | exact Kd.V_nil _ _ _ _ _ | exact Kd.Q_nil _ _ _ _ _ | exact Kd.S_nil _ _ _ _ _, by repeat (first | (with_reducible first | exact HB.out | apply below_alloc | apply pw_below_drewN | apply below_drew1) | exact HB.out)⟩
      · replace c8 := Bool.eq_false_iff.mpr c8
        subst c8
        have H1 : (runs_Spread.l0 kj2 a1 ([] : List Int) l0 (l0.length : Int) 0) = some (r1, r2) := by rw [if_neg (show ¬ (false = true) by decide)] at H; exact H
        clear H
        have H := H1
        clear H1
        have H' := Aside0.mk H
        clear H
        go_wp2
        go_loopg [6, 18] kj2 (fun kq v6 v18 w' => ∃ (x6_2 : List Int) (x18_2 : Int), v18 = .int .i64 x18_2 ∧ Aside0 (runs_Spread.l0 kq a1 x6_2 l0 (l0.length : Int) x18_2 = some (r1, r2)) ∧ Aside0 (kq ≤ kj2) ∧ Aside0 (Kd.R (Kd.int .u64) 51 w' w.heap.size (fun _ => True) v6 x6_2) ∧ Aside0 (Below w.heap.size w w'))
        case atStart => exact ⟨(([] : List Int)), (0), (by first | rfl | (simp; done) | (simp [*]; done)), H', ⟨Nat.le_refl _⟩, ⟨by first | exact Kd.R_nil _ _ _ _ _ | exact Kd.N_nil _ _ _ _ _ | exact Kd.V_nil _ _ _ _ _ | exact Kd.Q_nil _ _ _ _ _ | exact Kd.S_nil _ _ _ _ _⟩, ⟨by repeat (first | (with_reducible first | exact HB.out | apply below_alloc | apply pw_below_drewN | apply below_drew1) | exact HB.out)⟩⟩
        case round =>
          clear H'
          try clear p2
          try clear c3
          try clear c4
          try clear c5
          try clear c8
          try clear p2
          obtain ⟨x6_2, x18_2, rfl, HA, HK2, HO_6, HB⟩ := hrel
          cases gk with
          | zero => exact absurd HA.out (by simp [runs_Spread.l0])
          | succ k2 =>
            have H := HA.out
            clear HA
            simp only [runs_Spread.l0] at H
            by_cases c9 : x18_2 < (l0.length : Int)
            · rw [if_pos c9] at H
              have c9b0 : decide (x18_2 < (l0.length : Int)) = true := decide_eq_true c9
              clear c9
              by_cases c10 : 0 ≤ x18_2
              · rw [if_pos c10] at H
                have c10b0 : decide (0 ≤ x18_2) = true := decide_eq_true c10
                clear c10
                by_cases c11 : x18_2 < (l0.length : Int)
                · rw [if_pos c11] at H
                  have c11b0 : decide (x18_2 < (l0.length : Int)) = true := decide_eq_true c11
                  clear c11
                  by_cases c12 : ((rd_T53 l0 x18_2).f1) > (wrap64 (a1 - (x6_2.length : Int)))
                  · rw [if_pos c12] at H
                    have c12b0 : decide ((wrap64 (a1 - (x6_2.length : Int))) < ((rd_T53 l0 x18_2).f1)) = true := decide_eq_true c12
                    clear c12
                    simp only [Option.some.injEq, Prod.mk.injEq] at H
                    obtain ⟨rfl, rfl⟩ := H
                    have p270 : 0 ≤ (x18_2 : Int) := of_decide_eq_true (by first | (with_reducible assumption) | assumption)
                    have q270 : x18_2 < (l0.length : Int) := of_decide_eq_true (by first | (with_reducible assumption) | assumption)
                    obtain ⟨ad270, e270, hx270_0, hx270_1⟩ := at_T53 HR0.out x18_2 p270 q270
                    cases e270
                    replace hx270_0 := (HB.out.cell (World.block_lt_of_cell? w _ hx270_0)).trans hx270_0
                    replace hx270_1 := (HB.out.cell (World.block_lt_of_cell? w _ hx270_1)).trans hx270_1
                    replace p270 := eq_true p270
                    replace q270 := eq_true q270
                    go_wp2_with (first | ((with_reducible refine gate_dst (N := 8) rfl ?_); refine box_event ?hg (N := 8) ?hd (cs := #[.int .u64 0, .int .i64 0]) (t := 53) ?hr ?_; (case hd => rfl); (case hg => rfl); (case hr => first | (go_simp; done) | (go_simp; rfl)); intro gb271 hg w13 hbox hb; have n0_ := Aside0.mk (Kd.R_below (by (with_reducible repeat (first | apply Kd.R_alloc | apply Kd.R_drewN | apply Kd.R_drew)); exact HO_6.out) hb); have n1_ := Aside0.mk (below_step (by repeat (first | (with_reducible first | exact HB.out | apply below_alloc | apply pw_below_drewN | apply below_drew1) | exact HB.out)) hb); have n2_ := Aside0.mk (hbox); have n3_ := Aside0.mk ((by rw [hg]; exact (below_size (by repeat (first | (with_reducible first | exact HB.out | apply below_alloc | apply pw_below_drewN | apply below_drew1) | exact HB.out))) : w.heap.size ≤ gb271)); have n4_ := Aside0.mk ((by rw [hg]; exact (below_size (by repeat (first | (with_reducible first | exact HB.out | apply below_alloc | apply pw_below_drewN | apply below_drew1) | exact HB.out))) : w.heap.size ≤ gb271)); clear HO_6; clear HB; have HO_6 := n0_; have HB := n1_; have BK271 := n2_; have GW271 := n3_; have GE271 := n4_; clear n0_ n1_ n2_ n3_ n4_; clear hb hbox hg; have hcz14_0 : w13.cell? ⟨gb271, 0, none⟩ = some (.int .u64 0) := (blk_cell BK271.out 0).trans rfl; have hcz14_1 : w13.cell? ⟨gb271, 1, none⟩ = some (.int .i64 0) := (blk_cell BK271.out 1).trans rfl; have hfz14_0 := blk_frozen BK271.out 0; have hfz14_1 := blk_frozen BK271.out 1; obtain ⟨Ao15, co15, eo15⟩ := Kd.R_slice HO_6.out; subst eo15))
                    go_ret2
                    exact ⟨_, by first | rfl | (simp [errW_none, errW_some] <;> rfl) | (simp [*, errW_none, errW_some] <;> rfl), by first | exact Kd.R_nil _ _ _ _ _ | exact Kd.N_nil _ _ _ _ _ | exact Kd.V_nil _ _ _ _ _ | exact Kd.Q_nil _ _ _ _ _ | exact Kd.S_nil _ _ _ _ _, by repeat (first | (with_reducible first | exact HB.out | apply below_alloc | apply pw_below_drewN | apply below_drew1 | refine below_set ?_ GE271.out) | exact HB.out)⟩
                  · rw [if_neg c12] at H
                    have c12b0 : decide ((wrap64 (a1 - (x6_2.length : Int))) < ((rd_T53 l0 x18_2).f1)) = false := decide_eq_false c12
                    clear c12
                    obtain ⟨y272, hy272⟩ : ∃ y_ : List Int, y_ = (([(rd_T53 l0 x18_2).f0] : List Int)) := ⟨_, rfl⟩
                    replace H : ((slices_Repeat_uint64_uint64.f y272 ((rd_T53 l0 x18_2).f1)).bind fun t275 => (if x6_2.length + t275.length < 17592186044416 then (runs_Spread.l0 k2 a1 (x6_2 ++ t275) l0 (l0.length : Int) (wrap64 (x18_2 + 1))) else (none))) = some (r1, r2) := by first | (rw [hy272]; with_reducible exact H) | (have H2_ := (Option.bind_some _ _).symm.trans H; rw [hy272]; with_reducible exact H2_) | (have H2_ := (Option.bind_some _ _).symm.trans H; with_reducible exact H2_) | with_reducible exact H | (rw [hy272]; exact H) | exact H
                    have Ny272 := Aside0.mk hy272
                    clear hy272
                    replace H := Option.bind_eq_some_iff.mp H
                    obtain ⟨t275, A160, H⟩ := H
                    replace H : (if x6_2.length + t275.length < 17592186044416 then (runs_Spread.l0 k2 a1 (x6_2 ++ t275) l0 (l0.length : Int) (wrap64 (x18_2 + 1))) else (none)) = some (r1, r2) := H
                    have A16 := Aside0.mk A160
                    clear A160
                    by_cases c17 : x6_2.length + t275.length < 17592186044416
                    · rw [if_pos c17] at H
                      have LMc17 := Aside0.mk c17
                      clear c17
                      obtain ⟨y278, hy278⟩ : ∃ y_ : List Int, y_ = (x6_2 ++ t275) := ⟨_, rfl⟩
                      replace H : (runs_Spread.l0 k2 a1 y278 l0 (l0.length : Int) (wrap64 (x18_2 + 1))) = some (r1, r2) := by first | (rw [hy278]; with_reducible exact H) | (have H2_ := (Option.bind_some _ _).symm.trans H; rw [hy278]; with_reducible exact H2_) | (have H2_ := (Option.bind_some _ _).symm.trans H; with_reducible exact H2_) | with_reducible exact H | (rw [hy278]; exact H) | exact H
                      have Ny278 := Aside0.mk hy278
                      clear hy278
                      have H' := Aside0.mk H
                      clear H
                      have p270 : 0 ≤ (x18_2 : Int) := of_decide_eq_true (by first | (with_reducible assumption) | assumption)
                      have q270 : x18_2 < (l0.length : Int) := of_decide_eq_true (by first | (with_reducible assumption) | assumption)
                      obtain ⟨ad270, e270, hx270_0, hx270_1⟩ := at_T53 HR0.out x18_2 p270 q270
                      cases e270
                      replace hx270_0 := (HB.out.cell (World.block_lt_of_cell? w _ hx270_0)).trans hx270_0
                      replace hx270_1 := (HB.out.cell (World.block_lt_of_cell? w _ hx270_1)).trans hx270_1
                      replace p270 := eq_true p270
                      replace q270 := eq_true q270
                      go_wp2_with (first | ((with_reducible refine gate_dst (N := 8) rfl ?_); refine box_event ?hg (N := 8) ?hd (cs := #[.int .u64 0, .int .i64 0]) (t := 53) ?hr ?_; (case hd => rfl); (case hg => rfl); (case hr => first | (go_simp; done) | (go_simp; rfl)); intro gb271 hg w18 hbox hb; have n0_ := Aside0.mk (Kd.R_below (by (with_reducible repeat (first | apply Kd.R_alloc | apply Kd.R_drewN | apply Kd.R_drew)); exact HO_6.out) hb); have n1_ := Aside0.mk (below_step (by repeat (first | (with_reducible first | exact HB.out | apply below_alloc | apply pw_below_drewN | apply below_drew1) | exact HB.out)) hb); have n2_ := Aside0.mk (hbox); have n3_ := Aside0.mk ((by rw [hg]; exact (below_size (by repeat (first | (with_reducible first | exact HB.out | apply below_alloc | apply pw_below_drewN | apply below_drew1) | exact HB.out))) : w.heap.size ≤ gb271)); have n4_ := Aside0.mk ((by rw [hg]; exact (below_size (by repeat (first | (with_reducible first | exact HB.out | apply below_alloc | apply pw_below_drewN | apply below_drew1) | exact HB.out))) : w.heap.size ≤ gb271)); clear HO_6; clear HB; have HO_6 := n0_; have HB := n1_; have BK271 := n2_; have GW271 := n3_; have GE271 := n4_; clear n0_ n1_ n2_ n3_ n4_; clear hb hbox hg; have hcz19_0 : w18.cell? ⟨gb271, 0, none⟩ = some (.int .u64 0) := (blk_cell BK271.out 0).trans rfl; have hcz19_1 : w18.cell? ⟨gb271, 1, none⟩ = some (.int .i64 0) := (blk_cell BK271.out 1).trans rfl; have hfz19_0 := blk_frozen BK271.out 0; have hfz19_1 := blk_frozen BK271.out 1; obtain ⟨Ao20, co20, eo20⟩ := Kd.R_slice HO_6.out; subst eo20) | ((with_reducible refine gate_dst (N := 32) rfl ?_); refine Kd.R_lit (Kd.int .u64) _ 51 ?hg (N := 32) ?hd (xs := ([(rd_T53 l0 x18_2).f0] : List Int)) (inner := [.int .u64 ((rd_T53 l0 x18_2).f0)]) (ok := fun _ => True) (okp := fun _ => True) ?hr ?hp (fun _ hk => hk) trivial (Below.refl _ _) (Nat.le_refl _) (by simp) ?_; (case hd => rfl); (case hg => rfl); (case hr => first | (go_simp; done) | (go_simp; rfl)); (case hp => exact (Reps.one (show Kd.M (Kd.int .u64) _ _ _ ((rd_T53 l0 x18_2).f0) [.int .u64 ((rd_T53 l0 x18_2).f0)] from rfl) (Reps.none _ _))); intro v273 w21 ho22 hb hg_ hnew_; clear hg_ hnew_; (first | rw [← Ny272.out] at ho22 | (simp only [Int.reduceToNat] at ho22; rw [← Ny272.out] at ho22)); have n0_ := Aside0.mk (Kd.R_elder' (by (with_reducible repeat (first | apply Kd.R_alloc | apply Kd.R_drewN | apply Kd.R_drew)); exact (Kd.R_mono (Kd.R_far (p := ⟨gb271, 1, none⟩) (Kd.R_far (p := ⟨gb271, 0, none⟩) (Kd.R_types HO_6.out BK271.out (by decide)) (fun _ hk => hk.2) (.int .u64 ((rd_T53 l0 x18_2).f0))) (fun _ hk => hk.2) (.int .i64 ((rd_T53 l0 x18_2).f1))) (fun _ h_ => h_.1))) (Kd.R_base ho22) hb); have n1_ := Aside0.mk (Kd.R_lower (Kd.R_new' ho22 (Kd.R_lt (by (with_reducible repeat (first | apply Kd.R_alloc | apply Kd.R_drewN | apply Kd.R_drew)); exact (Kd.R_mono (Kd.R_far (p := ⟨gb271, 1, none⟩) (Kd.R_far (p := ⟨gb271, 0, none⟩) (Kd.R_types HO_6.out BK271.out (by decide)) (fun _ hk => hk.2) (.int .u64 ((rd_T53 l0 x18_2).f0))) (fun _ hk => hk.2) (.int .i64 ((rd_T53 l0 x18_2).f1))) (fun _ h_ => h_.1))))) (below_size (by repeat (first | (with_reducible first | exact HB.out | apply below_alloc | apply pw_below_drewN | apply below_drew1 | refine below_set ?_ GE271.out) | exact HB.out)))); have n2_ := Aside0.mk (blk_below (g := gb271) (o := .cells #[.int .u64 ((rd_T53 l0 x18_2).f0), .int .i64 ((rd_T53 l0 x18_2).f1)] 53 (0, 0)) (by (with_reducible repeat (first | refine blk_drewN ?_ _ | refine blk_drew ?_ | refine blk_alloc ?_ _)); refine blk_put (cs := #[.int .u64 ((rd_T53 l0 x18_2).f0), .int .i64 0]) ?_ 1 _ rfl; (with_reducible repeat (first | refine blk_drewN ?_ _ | refine blk_drew ?_ | refine blk_alloc ?_ _)); refine blk_put (cs := #[.int .u64 0, .int .i64 0]) ?_ 0 _ rfl; (with_reducible repeat (first | refine blk_drewN ?_ _ | refine blk_drew ?_ | refine blk_alloc ?_ _)); exact BK271.out) hb); have n3_ := Aside0.mk (below_step (by repeat (first | (with_reducible first | exact HB.out | apply below_alloc | apply pw_below_drewN | apply below_drew1 | refine below_set ?_ GE271.out) | exact HB.out)) hb); clear HO_6; clear BK271; clear HB; have HO_6 := n0_; have HO274 := n1_; have BK271 := n2_; have HB := n3_; clear n0_ n1_ n2_ n3_; clear hb ho22; have hcz23_0 : w21.cell? ⟨gb271, 0, none⟩ = some (.int .u64 ((rd_T53 l0 x18_2).f0)) := (blk_cell BK271.out 0).trans rfl; have hcz23_1 : w21.cell? ⟨gb271, 1, none⟩ = some (.int .i64 ((rd_T53 l0 x18_2).f1)) := (blk_cell BK271.out 1).trans rfl; have hfz23_0 := blk_frozen BK271.out 0; have hfz23_1 := blk_frozen BK271.out 1; obtain ⟨Ao24, co24, eo24⟩ := Kd.R_slice HO274.out; subst eo24) | ((with_reducible refine gate_callee (f := 88) rfl ?_); refine goesL_ (some 35) rfl rfl Try.func88 (by kernel_rfl) rfl #[.slice Ao24 y272.length co24, .int .i64 ((rd_T53 l0 x18_2).f1)] rfl (by (try simp only [List.map_toArray, List.map_cons, List.map_nil]); first | done | rfl | (simp only [List.length_drop, List.length_take]; rfl)) ?_; (with_reducible refine (slices_Repeat_uint64_uint64.calls _ _ y272 ((rd_T53 l0 x18_2).f1) t275 _ ?side1 ?side2 A16.out).mono ?_); (case side1 => repeat (first | exact (Kd.R_reads' HO274.out).2.2 | (with_reducible refine Kd.C_alloc ?_ _) | (with_reducible refine Kd.C_drewN ?_ _) | (with_reducible refine Kd.C_drew ?_))); (case side2 => exact (Kd.R_reads' HO274.out).2.1); rintro e w25 ⟨v276, rfl, ho0, hb⟩; refine ⟨_, rfl, ?_⟩; have n0_ := Aside0.mk (Kd.R_elder' (by (with_reducible repeat (first | apply Kd.R_alloc | apply Kd.R_drewN | apply Kd.R_drew)); exact HO_6.out) (Kd.R_base ho0) hb); have n1_ := Aside0.mk (Kd.R_elder' (by (with_reducible repeat (first | apply Kd.R_alloc | apply Kd.R_drewN | apply Kd.R_drew)); exact HO274.out) (Kd.R_base ho0) hb); have n2_ := Aside0.mk (Kd.R_lower (Kd.R_new' (Kd.R_new' ho0 (Kd.R_lt (by (with_reducible repeat (first | apply Kd.R_alloc | apply Kd.R_drewN | apply Kd.R_drew)); exact HO_6.out))) (Kd.R_lt (by (with_reducible repeat (first | apply Kd.R_alloc | apply Kd.R_drewN | apply Kd.R_drew)); exact HO274.out))) (below_size (by repeat (first | (with_reducible first | exact HB.out | apply below_alloc | apply pw_below_drewN | apply below_drew1 | refine below_set ?_ GE271.out) | exact HB.out)))); have n3_ := Aside0.mk (blk_below (g := gb271) (o := .cells #[.int .u64 ((rd_T53 l0 x18_2).f0), .int .i64 ((rd_T53 l0 x18_2).f1)] 53 (0, 0)) (by (with_reducible repeat (first | refine blk_drewN ?_ _ | refine blk_drew ?_ | refine blk_alloc ?_ _)); exact BK271.out) hb); have n4_ := Aside0.mk (below_step (by repeat (first | (with_reducible first | exact HB.out | apply below_alloc | apply pw_below_drewN | apply below_drew1 | refine below_set ?_ GE271.out) | exact HB.out)) hb); clear HO_6; clear HO274; clear BK271; clear HB; have HO_6 := n0_; have HO274 := n1_; have HO277 := n2_; have BK271 := n3_; have HB := n4_; clear n0_ n1_ n2_ n3_ n4_; (try clear hb); (try clear hb2); (try clear hk); (try clear hi); (try clear ho0); obtain ⟨Ao27, co27, eo27⟩ := Kd.R_slice HO277.out; subst eo27) | ((with_reducible refine gate_builtin (b := .append) (xs := #[.tmp 29, .tmp 35]) rfl ?_); at_builtin; refine Kd.R_append_rows (Kd.int .u64) (w0 := w) w.heap.size rfl (.tmp 29) (.tmp 35) 38 51 (.int .u64 0) 8 rfl Try.underlying38 info51 rfl (by decide) (by omega) (.slice Ao20 x6_2.length co20) x6_2 t275 _ _ _ (fun k_ => some k_ ≠ (.slice Ao24 y272.length co24 : Value).ownBlock ∧ some k_ ≠ (.slice Ao27 t275.length co27 : Value).ownBlock) (fun _ => False) rfl rfl ?aO ?aR (fun _ _ h => h) (fun _ h => h.elim) ?aF ?aB ?aS ?aL ?_; (case aR => repeat (first | exact (Kd.R_reads' HO277.out).2.2 | (with_reducible refine Kd.C_alloc ?_ _) | (with_reducible refine Kd.C_drewN ?_ _) | (with_reducible refine Kd.C_drew ?_))); (case aB => exact (by repeat (first | (with_reducible first | exact HB.out | apply below_alloc | apply pw_below_drewN | apply below_drew1 | refine below_set ?_ GE271.out) | exact HB.out))); (case aF => exact (fun k_ hk => ⟨Kd.fresh' (Kd.R_lt (by (with_reducible repeat (first | apply Kd.R_alloc | apply Kd.R_drewN | apply Kd.R_drew)); exact HO274.out)) k_ hk, Kd.fresh' (Kd.R_lt (by (with_reducible repeat (first | apply Kd.R_alloc | apply Kd.R_drewN | apply Kd.R_drew)); exact HO277.out)) k_ hk⟩)); (case aO => exact (by (with_reducible repeat (first | apply Kd.R_alloc | apply Kd.R_drewN | apply Kd.R_drew)); exact Kd.R_mono HO_6.out (fun _ hk => ⟨hk.1.2, hk.2⟩))); (case aS => exact (below_size (by repeat (first | (with_reducible first | exact HB.out | apply below_alloc | apply pw_below_drewN | apply below_drew1 | refine below_set ?_ GE271.out) | exact HB.out)))); (case aL => have := LMc17.out; omega); intro v279 w26 ho hb hg hat; rw [← Ny278.out] at ho; have n0_ := Aside0.mk (blk_grown (g := gb271) (o := .cells #[.int .u64 ((rd_T53 l0 x18_2).f0), .int .i64 ((rd_T53 l0 x18_2).f1)] 53 (0, 0)) (by (with_reducible repeat (first | refine blk_drewN ?_ _ | refine blk_drew ?_ | refine blk_alloc ?_ _)); exact BK271.out) hg (Kd.R_ne HO_6.out BK271.out (by decide))); have n1_ := Aside0.mk (Kd.R_after (ok := (fun k_ => some k_ ≠ (.slice Ao27 t275.length co27 : Value).ownBlock)) (by (with_reducible repeat (first | apply Kd.R_alloc | apply Kd.R_drewN | apply Kd.R_drew)); exact Kd.R_mono HO274.out (fun _ hk => ⟨hk.2, hk.1.2⟩)) hg hat); have n2_ := Aside0.mk (Kd.R_after (ok := (fun k_ => some k_ ≠ (.slice Ao24 y272.length co24 : Value).ownBlock)) (by (with_reducible repeat (first | apply Kd.R_alloc | apply Kd.R_drewN | apply Kd.R_drew)); exact Kd.R_mono HO277.out (fun _ hk => ⟨hk.2, hk.1.2⟩)) hg hat); have n3_ := Aside0.mk (hb); have n4_ := Aside0.mk (ho); clear BK271; clear HO274; clear HO277; clear HB; clear HO_6; have BK271 := n0_; have HO274 := n1_; have HO277 := n2_; have HB := n3_; have HO280 := n4_; clear n0_ n1_ n2_ n3_ n4_; clear ho hb hg hat))
                      go_roundg k2
                      case measure => have := HJ2.out; have := HK2.out; omega
                      case rel => exact ⟨(y278), (wrap64 (x18_2 + 1)), (by first | rfl | (simp; done) | (simp [*]; done)), H', ⟨by have := HJ2.out; have := HK2.out; omega⟩, ⟨by (with_reducible repeat (first | apply Kd.R_alloc | apply Kd.R_drewN | apply Kd.R_drew)); exact Kd.R_mono HO280.out (fun _ hk => trivial)⟩, ⟨by repeat (first | (with_reducible first | exact HB.out | apply below_alloc | apply pw_below_drewN | apply below_drew1 | refine below_set ?_ GE271.out) | exact HB.out)⟩⟩
                    · rw [if_neg c17] at H
                      exact absurd H (by simp)
                · rw [if_neg c11] at H
                  exact absurd H (by simp)
              · rw [if_neg c10] at H
                exact absurd H (by simp)
            · rw [if_neg c9] at H
              have c9b0 : decide (x18_2 < (l0.length : Int)) = false := decide_eq_false c9
              clear c9
              simp only [Option.some.injEq, Prod.mk.injEq] at H
              obtain ⟨rfl, rfl⟩ := H
              go_wp2
              go_ret2
              exact ⟨_, by first | rfl | (simp [errW_none, errW_some] <;> rfl) | (simp [*, errW_none, errW_some] <;> rfl), by (with_reducible repeat (first | apply Kd.R_alloc | apply Kd.R_drewN | apply Kd.R_drew)); exact HO_6.out, by repeat (first | (with_reducible first | exact HB.out | apply below_alloc | apply pw_below_drewN | apply below_drew1) | exact HB.out)⟩
def runs_of_uint64.l0 : Nat → List (S98) → List Int → Int → Int → Option ((List (S98)))
  | 0, _, _, _, _ => none
  | k + 1, x3, x7, x8, x9 => if x9 < x8 then (if 0 ≤ x9 then (if x9 < (x7.length : Int) then (if (wrap64 ((x3.length : Int) - 1)) ≥ 0 then (if 0 ≤ (wrap64 ((x3.length : Int) - 1)) then (if (wrap64 ((x3.length : Int) - 1)) < (x3.length : Int) then (if ((rd_T98 x3 (wrap64 ((x3.length : Int) - 1))).f0) = (rd x7 x9) then (runs_of_uint64.l0 k (x3.set ((wrap64 ((x3.length : Int) - 1)) : Int).toNat (⟨(rd_T98 x3 (wrap64 ((x3.length : Int) - 1))).f0, wrap64 (((rd_T98 x3 (wrap64 ((x3.length : Int) - 1))).f1) + 1)⟩ : S98)) x7 x8 (wrap64 (x9 + 1))) else (if x3.length < 8796093022208 then (runs_of_uint64.l0 k (x3 ++ [(⟨rd x7 x9, 1⟩ : S98)]) x7 x8 (wrap64 (x9 + 1))) else (none))) else (none)) else (none)) else (if x3.length < 8796093022208 then (runs_of_uint64.l0 k (x3 ++ [(⟨rd x7 x9, 1⟩ : S98)]) x7 x8 (wrap64 (x9 + 1))) else (none))) else (none)) else (none)) else (some x3)
def runs_of_uint64.f (k : Nat) (l0 : List Int) : Option ((List (S98))) := runs_of_uint64.l0 k ([] : List (S98)) l0 (l0.length : Int) 0
theorem runs_of_uint64.mono_l : ∀ k, (∀ y0 y1 y2 y3, LeO (runs_of_uint64.l0 k y0 y1 y2 y3) (runs_of_uint64.l0 (k + 1) y0 y1 y2 y3))
  | 0 => fun _ _ _ _ r h => by simp [runs_of_uint64.l0] at h
  | k + 1 => by
    have ih0 := runs_of_uint64.mono_l k
    · intro y0 y1 y2 y3
      unfold runs_of_uint64.l0
      repeat' first
      | (with_reducible exact ih0 _ _ _ _)
      | (with_reducible exact LeO.refl _)
      | (with_reducible exact LeO.none _)
      | (with_reducible refine LeO.ite ?_ ?_)
      | (with_reducible refine LeO.bind ?_ (fun _ => ?_))
      | exact ih0 _ _ _ _
      | exact LeO.none _
      | refine LeO.ite ?_ ?_
      | refine LeO.bind ?_ (fun _ => ?_)
theorem runs_of_uint64.mono : ∀ a0 k, LeO (runs_of_uint64.f k a0) (runs_of_uint64.f (k + 1) a0) := by
  intro a0 k
  have ih0 := runs_of_uint64.mono_l k
  unfold runs_of_uint64.f
  repeat' first
      | (with_reducible exact ih0 _ _ _ _)
      | (with_reducible exact LeO.refl _)
      | (with_reducible exact LeO.none _)
      | (with_reducible refine LeO.ite ?_ ?_)
      | (with_reducible refine LeO.bind ?_ (fun _ => ?_))
      | exact ih0 _ _ _ _
      | exact LeO.none _
      | refine LeO.ite ?_ ?_
      | refine LeO.bind ?_ (fun _ => ?_)
set_option maxHeartbeats 8000000 in
set_option maxRecDepth 100000 in
theorem runs_of_uint64.calls (k : Nat) (A0 : Option Addr) (c0 : Nat) (l0 : List Int) (r : List (S98)) (w : World) (hr0 : Kd.C (Kd.int .u64) w A0 l0.length l0) (hc0 : l0.length ≤ c0) (h : runs_of_uint64.f k l0 = some r) :
    Calls Try.prog 89 #[.slice A0 l0.length c0] w fun e w' => ∃ v0_ : Value, e = .returned (v0_) ∧ Kd.R k98 98 w' w.heap.size (fun _ => True) v0_ r ∧ Below w.heap.size w w' := by
  have hu98 := Try.underlying98
  have HR0 := Aside0.mk hr0
  have HC0 := Aside0.mk hc0
  clear hr0 hc0
  have HB := Aside0.mk (Below.refl w.heap.size w)
  have H : (runs_of_uint64.l0 k ([] : List (S98)) l0 (l0.length : Int) 0) = some r := h
  clear h
  have H' := Aside0.mk H
  clear H
  go_enter Try.func89, Try.ntmps89
  go_wp2
  go_loopg [3, 9] k (fun kq v3 v9 w' => ∃ (x3_1 : List (S98)) (x9_1 : Int), v9 = .int .i64 x9_1 ∧ Aside0 (runs_of_uint64.l0 kq x3_1 l0 (l0.length : Int) x9_1 = some r) ∧ Aside0 (kq ≤ k) ∧ Aside0 (Kd.R k98 98 w' w.heap.size (fun _ => True) v3 x3_1) ∧ Aside0 (Below w.heap.size w w'))
  case atStart => exact ⟨(([] : List (S98))), (0), (by first | rfl | (simp; done) | (simp [*]; done)), H', ⟨Nat.le_refl _⟩, ⟨by first | exact Kd.R_nil _ _ _ _ _ | exact Kd.N_nil _ _ _ _ _ | exact Kd.V_nil _ _ _ _ _ | exact Kd.Q_nil _ _ _ _ _ | exact Kd.S_nil _ _ _ _ _⟩, ⟨by repeat (first | (with_reducible first | exact HB.out | apply below_alloc | apply pw_below_drewN | apply below_drew1) | exact HB.out)⟩⟩
  case round =>
    clear H'
    obtain ⟨x3_1, x9_1, rfl, HA, HK1, HO_3, HB⟩ := hrel
    cases gk with
    | zero => exact absurd HA.out (by simp [runs_of_uint64.l0])
    | succ k1 =>
      have H := HA.out
      clear HA
      simp only [runs_of_uint64.l0] at H
      by_cases c2 : x9_1 < (l0.length : Int)
      · rw [if_pos c2] at H
        have c2b0 : decide (x9_1 < (l0.length : Int)) = true := decide_eq_true c2
        clear c2
        by_cases c3 : 0 ≤ x9_1
        · rw [if_pos c3] at H
          have c3b0 : decide (0 ≤ x9_1) = true := decide_eq_true c3
          clear c3
          by_cases c4 : x9_1 < (l0.length : Int)
          · rw [if_pos c4] at H
            have c4b0 : decide (x9_1 < (l0.length : Int)) = true := decide_eq_true c4
            clear c4
            by_cases c5 : (wrap64 ((x3_1.length : Int) - 1)) ≥ 0
            · rw [if_pos c5] at H
              have c5b0 : decide (0 ≤ (wrap64 ((x3_1.length : Int) - 1))) = true := decide_eq_true c5
              clear c5
              obtain ⟨ji6, hji6⟩ : ∃ j_ : Int, (wrap64 ((x3_1.length : Int) - 1)) = j_ := ⟨_, rfl⟩
              replace H : (if 0 ≤ (ji6) then (if (ji6) < (x3_1.length : Int) then (if ((rd_T98 x3_1 (ji6)).f0) = (rd l0 x9_1) then (runs_of_uint64.l0 k1 (x3_1.set ((ji6) : Int).toNat (⟨(rd_T98 x3_1 (ji6)).f0, wrap64 (((rd_T98 x3_1 (ji6)).f1) + 1)⟩ : S98)) l0 (l0.length : Int) (wrap64 (x9_1 + 1))) else (if x3_1.length < 8796093022208 then (runs_of_uint64.l0 k1 (x3_1 ++ [(⟨rd l0 x9_1, 1⟩ : S98)]) l0 (l0.length : Int) (wrap64 (x9_1 + 1))) else (none))) else (none)) else (none)) = some r := by first | (rw [hji6] at H; exact H) | (simp only [hji6] at H ⊢; exact H)
              (try rw [hji6] at c5b0)
              have hji6w : (IntKind.i64.wrap ((x3_1.length : Int) - 1)) = ji6 := (i64_w _).trans hji6
              by_cases c7 : 0 ≤ (ji6)
              · rw [if_pos c7] at H
                have c7b0 : decide (0 ≤ (ji6)) = true := decide_eq_true c7
                clear c7
                by_cases c8 : (ji6) < (x3_1.length : Int)
                · rw [if_pos c8] at H
                  have c8b0 : decide ((ji6) < (x3_1.length : Int)) = true := decide_eq_true c8
                  clear c8
                  by_cases c9 : ((rd_T98 x3_1 (ji6)).f0) = (rd l0 x9_1)
                  · rw [if_pos c9] at H
                    have c9b0 : (((rd_T98 x3_1 (ji6)).f0) == (rd l0 x9_1)) = true := beq_iff_eq.mpr c9
                    have c9b1 : (((rd_T98 x3_1 (ji6)).f0) != (rd l0 x9_1)) = false := bne_eq_false_iff_eq.mpr c9
                    clear c9
                    obtain ⟨y286, hy286⟩ : ∃ y_ : List (S98), y_ = (x3_1.set ((ji6) : Int).toNat (⟨(rd_T98 x3_1 (ji6)).f0, wrap64 (((rd_T98 x3_1 (ji6)).f1) + 1)⟩ : S98)) := ⟨_, rfl⟩
                    replace H : (runs_of_uint64.l0 k1 y286 l0 (l0.length : Int) (wrap64 (x9_1 + 1))) = some r := by first | (rw [hy286]; with_reducible exact H) | (have H2_ := (Option.bind_some _ _).symm.trans H; rw [hy286]; with_reducible exact H2_) | (have H2_ := (Option.bind_some _ _).symm.trans H; with_reducible exact H2_) | with_reducible exact H | (rw [hy286]; exact H) | exact H
                    have Ny286 := Aside0.mk hy286
                    clear hy286
                    have H' := Aside0.mk H
                    clear H
                    have p283 : 0 ≤ (x9_1 : Int) := of_decide_eq_true (by first | (with_reducible assumption) | assumption)
                    have q283 : x9_1 < (l0.length : Int) := of_decide_eq_true (by first | (with_reducible assumption) | assumption)
                    obtain ⟨ad283, e283, hx283_0⟩ := Kd.at_int HR0.out x9_1 p283 q283
                    cases e283
                    replace hx283_0 := (HB.out.cell (World.block_lt_of_cell? w _ hx283_0)).trans hx283_0
                    replace p283 := eq_true p283
                    replace q283 := eq_true q283
                    obtain ⟨Ao11, co11, eo11⟩ := Kd.R_slice HO_3.out
                    subst eo11
                    have p284 : 0 ≤ ((ji6) : Int) := of_decide_eq_true (by first | (with_reducible assumption) | assumption)
                    have q284 : (ji6) < (x3_1.length : Int) := of_decide_eq_true (by first | (with_reducible assumption) | assumption)
                    obtain ⟨ad284, e284, hx284_0, hx284_1⟩ := at_T98 (Kd.R_reads' HO_3.out).2.2 (ji6) p284 q284
                    cases e284
                    replace p284 := eq_true p284
                    replace q284 := eq_true q284
                    have p285 : 0 ≤ ((ji6) : Int) := of_decide_eq_true (by first | (with_reducible assumption) | assumption)
                    have q285 : (ji6) < (x3_1.length : Int) := of_decide_eq_true (by first | (with_reducible assumption) | assumption)
                    obtain ⟨ad285, e285, hx285_0, hx285_1⟩ := at_T98 (Kd.R_reads' HO_3.out).2.2 (ji6) p285 q285
                    obtain rfl : ad284 = ad285 := (by injection e285)
                    replace p285 := eq_true p285
                    replace q285 := eq_true q285
                    have p10 : 0 ≤ ((ji6) : Int) := of_decide_eq_true (by first | (with_reducible assumption) | assumption)
                    have q10 : ((ji6) : Int) < ((x3_1.length : Int) : Int) := of_decide_eq_true (by first | (with_reducible assumption) | assumption)
                    obtain ⟨go10, co10, eo10, gb10, gl10, cl10, HG10⟩ := Kd.R_form HO_3.out (by omega)
                    (first | cases eo10 | (injection eo10 with ea_ en_ ec_; (first | subst ea_ | (injection ea_ with ea_; subst ea_)); subst ec_; clear en_))
                    have GB10 := Aside0.mk gb10
                    have GG10 := Aside0.mk HG10
                    clear gb10 gl10 HG10
                    (first | simp only [add_plain] at hx284_0 | skip)
                    (first | simp only [add_plain] at hx284_1 | skip)
                    (first | simp only [add_plain] at hx285_0 | skip)
                    (first | simp only [add_plain] at hx285_1 | skip)
                    obtain ⟨ce10, hcl10, hM10, hcc10, hfr10⟩ := Kd.R_elem HO_3.out z98 ((ji6) : Int) p10 q10
                    obtain rfl := k98_openM hM10
                    have hx10_0 : wr.cell? ⟨go10, ((ji6) : Int).toNat * 2, none⟩ = some (.int .u64 ((rd_T98 x3_1 (ji6)).f0)) := hcc10 0 _ rfl
                    have hx10_1 : wr.cell? ⟨go10, ((ji6) : Int).toNat * 2 + 1, none⟩ = some (.int .i64 ((rd_T98 x3_1 (ji6)).f1)) := hcc10 1 _ rfl
                    have hf10_0 : wr.frozen? ⟨go10, ((ji6) : Int).toNat * 2, none⟩ = false := hfr10 0
                    have hf10_1 : wr.frozen? ⟨go10, ((ji6) : Int).toNat * 2 + 1, none⟩ = false := hfr10 1
                    clear hcl10 hcc10 hfr10 hM10
                    replace p10 := eq_true p10
                    replace q10 := eq_true q10
                    have HX12 := Aside0.mk (show Kd.R k98 98 wr w.heap.size (fun _ => True) (.slice (some ⟨go10, 0, none⟩) x3_1.length co11) x3_1 from (by (with_reducible repeat (first | apply Kd.R_alloc | apply Kd.R_drewN | apply Kd.R_drew)); exact HO_3.out))
                    obtain ⟨ce12, hcl12, hM12, hcc12, hfr12⟩ := Kd.R_elem HX12.out z98 ((ji6) : Int) (of_decide_eq_true (by first | (with_reducible assumption) | assumption)) (by have h_ : ((ji6) : Int) < ((x3_1.length : Int) : Int) := of_decide_eq_true (by first | (with_reducible assumption) | assumption); first | exact h_ | (have e_ := (Kd.R_reads' HO_3.out).1; omega) | simpa using h_)
                    obtain rfl := k98_openM hM12
                    have HP12 := Kd.R_seg HX12.out ((ji6) : Int) (of_decide_eq_true (by first | (with_reducible assumption) | assumption)) (by have h_ : ((ji6) : Int) < ((x3_1.length : Int) : Int) := of_decide_eq_true (by first | (with_reducible assumption) | assumption); first | exact h_ | (have e_ := (Kd.R_reads' HO_3.out).1; omega) | simpa using h_) (seg := [.int .i64 (wrap64 (((rd_T98 x3_1 (ji6)).f1) + 1))]) (j := 1) hcl12 hcc12 (show 2 ≤ 2 from by decide) (x' := (⟨(rd_T98 x3_1 (ji6)).f0, wrap64 (((rd_T98 x3_1 (ji6)).f1) + 1)⟩ : S98)) (k98_mkM _ _ _ (⟨(rd_T98 x3_1 (ji6)).f0, wrap64 (((rd_T98 x3_1 (ji6)).f1) + 1)⟩ : S98) ) (fun _ hk => hk)
                    have hx12_1 := hcc12 1 _ rfl
                    (try simp only [show (k98).sz = 2 from rfl, Nat.mul_one, Nat.add_zero] at hx12_1)
                    have hf12_1 := hfr12 1
                    (try simp only [show (k98).sz = 2 from rfl, Nat.mul_one, Nat.add_zero] at hf12_1)
                    clear hcl12 hcc12 hfr12 hM12
                    go_wp2_with (first | ((with_reducible refine gate_store (t := 3) (p := 34) rfl ?_); refine store_event (t := 3) (p := 34) (v := ?vo_w13) (w1 := (wr.setCell ⟨go10, ((ji6) : Int).toNat * 2 + 1, none⟩ (.int .i64 (wrap64 (((rd_T98 x3_1 (ji6)).f1) + 1))))) ?hg ?ho ?hn ?hr ?_; (case ho => rfl); (case hg => rfl); (case hn => rfl); (case hr => first | (go_simp; done) | (go_simp; rfl)); intro w13 hw; have hg : wr.grownBy w13 (some go10) := (by rw [hw]; exact HP12.2); have hp_ : Kd.R k98 98 w13 w.heap.size (fun _ => True) (.slice (some ⟨go10, 0, none⟩) x3_1.length co11) y286 := (by rw [hw, Ny286.out]; exact HP12.1); clear HP12; have n0_ := Aside0.mk (hp_); have n1_ := Aside0.mk ((by rw [hw]; exact below_set (HB.out) GB10.out : Below w.heap.size w w13)); clear HO_3; clear HB; have HO_3 := n0_; have HB := n1_; clear n0_ n1_; clear hg hw hp_))
                    go_roundg k1
                    case measure => have := HK1.out; omega
                    case rel => exact ⟨(y286), (wrap64 (x9_1 + 1)), (by first | rfl | (simp; done) | (simp [*]; done)), H', ⟨by have := HK1.out; omega⟩, ⟨by (with_reducible repeat (first | apply Kd.R_alloc | apply Kd.R_drewN | apply Kd.R_drew)); exact HO_3.out⟩, ⟨by repeat (first | (with_reducible first | exact HB.out | apply below_alloc | apply pw_below_drewN | apply below_drew1) | exact HB.out)⟩⟩
                  · rw [if_neg c9] at H
                    have c9b0 : (((rd_T98 x3_1 (ji6)).f0) == (rd l0 x9_1)) = false := beq_eq_false_iff_ne.mpr c9
                    have c9b1 : (((rd_T98 x3_1 (ji6)).f0) != (rd l0 x9_1)) = true := bne_iff_ne.mpr c9
                    by_cases c14 : x3_1.length < 8796093022208
                    · rw [if_pos c14] at H
                      have LMc14 := Aside0.mk c14
                      clear c14
                      obtain ⟨y287, hy287⟩ : ∃ y_ : List (S98), y_ = (x3_1 ++ [(⟨rd l0 x9_1, 1⟩ : S98)]) := ⟨_, rfl⟩
                      replace H : (runs_of_uint64.l0 k1 y287 l0 (l0.length : Int) (wrap64 (x9_1 + 1))) = some r := by first | (rw [hy287]; with_reducible exact H) | (have H2_ := (Option.bind_some _ _).symm.trans H; rw [hy287]; with_reducible exact H2_) | (have H2_ := (Option.bind_some _ _).symm.trans H; with_reducible exact H2_) | with_reducible exact H | (rw [hy287]; exact H) | exact H
                      have Ny287 := Aside0.mk hy287
                      clear hy287
                      have H' := Aside0.mk H
                      clear H
                      have p283 : 0 ≤ (x9_1 : Int) := of_decide_eq_true (by first | (with_reducible assumption) | assumption)
                      have q283 : x9_1 < (l0.length : Int) := of_decide_eq_true (by first | (with_reducible assumption) | assumption)
                      obtain ⟨ad283, e283, hx283_0⟩ := Kd.at_int HR0.out x9_1 p283 q283
                      cases e283
                      replace hx283_0 := (HB.out.cell (World.block_lt_of_cell? w _ hx283_0)).trans hx283_0
                      replace p283 := eq_true p283
                      replace q283 := eq_true q283
                      obtain ⟨Ao15, co15, eo15⟩ := Kd.R_slice HO_3.out
                      subst eo15
                      have p284 : 0 ≤ ((ji6) : Int) := of_decide_eq_true (by first | (with_reducible assumption) | assumption)
                      have q284 : (ji6) < (x3_1.length : Int) := of_decide_eq_true (by first | (with_reducible assumption) | assumption)
                      obtain ⟨ad284, e284, hx284_0, hx284_1⟩ := at_T98 (Kd.R_reads' HO_3.out).2.2 (ji6) p284 q284
                      cases e284
                      replace p284 := eq_true p284
                      replace q284 := eq_true q284
                      go_wp2_with (first | ((with_reducible refine gate_builtin (b := .append) (xs := #[.tmp 35, .tmp 38]) rfl ?_); at_builtin; refine Kd.R_append k98 (w0 := w) w.heap.size rfl (.tmp 35) (.tmp 38) 95 98 (.agg #[(.int .u64 0), (.int .i64 0)]) 16 rfl Try.underlying95 info98 rfl (by decide) (by omega) (.slice (some ad284) x3_1.length co15) x3_1 (⟨rd l0 x9_1, 1⟩ : S98) [.int .u64 (rd l0 x9_1), .int .i64 1] (fun _ => True) (fun _ => False) rfl rfl ?aP (fun _ hk => hk.elim) ?aF ?aO ?aB ?aS ?aL ?_; (case aP => exact k98_mkM _ _ _ (⟨rd l0 x9_1, 1⟩ : S98)); (case aB => exact (by repeat (first | (with_reducible first | exact HB.out | apply below_alloc | apply pw_below_drewN | apply below_drew1) | exact HB.out))); (case aF => exact (fun _ _ => trivial)); (case aO => exact (by (with_reducible repeat (first | apply Kd.R_alloc | apply Kd.R_drewN | apply Kd.R_drew)); exact HO_3.out)); (case aS => exact (below_size (by repeat (first | (with_reducible first | exact HB.out | apply below_alloc | apply pw_below_drewN | apply below_drew1) | exact HB.out)))); (case aL => have := LMc14.out; omega); intro v288 w16 ho hb hg hat; rw [← Ny287.out] at ho; have n0_ := Aside0.mk (hb); have n1_ := Aside0.mk (ho); clear HB; clear HO_3; have HB := n0_; have HO289 := n1_; clear n0_ n1_; clear ho hb hg hat))
                      go_roundg k1
                      case measure => have := HK1.out; omega
                      case rel => exact ⟨(y287), (wrap64 (x9_1 + 1)), (by first | rfl | (simp; done) | (simp [*]; done)), H', ⟨by have := HK1.out; omega⟩, ⟨by (with_reducible repeat (first | apply Kd.R_alloc | apply Kd.R_drewN | apply Kd.R_drew)); exact HO289.out⟩, ⟨by repeat (first | (with_reducible first | exact HB.out | apply below_alloc | apply pw_below_drewN | apply below_drew1) | exact HB.out)⟩⟩
                    · rw [if_neg c14] at H
                      exact absurd H (by simp)
                · rw [if_neg c8] at H
                  exact absurd H (by simp)
              · rw [if_neg c7] at H
                exact absurd H (by simp)
            · rw [if_neg c5] at H
              have c5b0 : decide (0 ≤ (wrap64 ((x3_1.length : Int) - 1))) = false := decide_eq_false c5
              clear c5
              by_cases c17 : x3_1.length < 8796093022208
              · rw [if_pos c17] at H
                have LMc17 := Aside0.mk c17
                clear c17
                obtain ⟨y290, hy290⟩ : ∃ y_ : List (S98), y_ = (x3_1 ++ [(⟨rd l0 x9_1, 1⟩ : S98)]) := ⟨_, rfl⟩
                replace H : (runs_of_uint64.l0 k1 y290 l0 (l0.length : Int) (wrap64 (x9_1 + 1))) = some r := by first | (rw [hy290]; with_reducible exact H) | (have H2_ := (Option.bind_some _ _).symm.trans H; rw [hy290]; with_reducible exact H2_) | (have H2_ := (Option.bind_some _ _).symm.trans H; with_reducible exact H2_) | with_reducible exact H | (rw [hy290]; exact H) | exact H
                have Ny290 := Aside0.mk hy290
                clear hy290
                have H' := Aside0.mk H
                clear H
                have p283 : 0 ≤ (x9_1 : Int) := of_decide_eq_true (by first | (with_reducible assumption) | assumption)
                have q283 : x9_1 < (l0.length : Int) := of_decide_eq_true (by first | (with_reducible assumption) | assumption)
                obtain ⟨ad283, e283, hx283_0⟩ := Kd.at_int HR0.out x9_1 p283 q283
                cases e283
                replace hx283_0 := (HB.out.cell (World.block_lt_of_cell? w _ hx283_0)).trans hx283_0
                replace p283 := eq_true p283
                replace q283 := eq_true q283
                obtain ⟨Ao18, co18, eo18⟩ := Kd.R_slice HO_3.out
                subst eo18
                go_wp2_with (first | ((with_reducible refine gate_builtin (b := .append) (xs := #[.tmp 35, .tmp 38]) rfl ?_); at_builtin; refine Kd.R_append k98 (w0 := w) w.heap.size rfl (.tmp 35) (.tmp 38) 95 98 (.agg #[(.int .u64 0), (.int .i64 0)]) 16 rfl Try.underlying95 info98 rfl (by decide) (by omega) (.slice Ao18 x3_1.length co18) x3_1 (⟨rd l0 x9_1, 1⟩ : S98) [.int .u64 (rd l0 x9_1), .int .i64 1] (fun _ => True) (fun _ => False) rfl rfl ?aP (fun _ hk => hk.elim) ?aF ?aO ?aB ?aS ?aL ?_; (case aP => exact k98_mkM _ _ _ (⟨rd l0 x9_1, 1⟩ : S98)); (case aB => exact (by repeat (first | (with_reducible first | exact HB.out | apply below_alloc | apply pw_below_drewN | apply below_drew1) | exact HB.out))); (case aF => exact (fun _ _ => trivial)); (case aO => exact (by (with_reducible repeat (first | apply Kd.R_alloc | apply Kd.R_drewN | apply Kd.R_drew)); exact HO_3.out)); (case aS => exact (below_size (by repeat (first | (with_reducible first | exact HB.out | apply below_alloc | apply pw_below_drewN | apply below_drew1) | exact HB.out)))); (case aL => have := LMc17.out; omega); intro v291 w19 ho hb hg hat; rw [← Ny290.out] at ho; have n0_ := Aside0.mk (hb); have n1_ := Aside0.mk (ho); clear HB; clear HO_3; have HB := n0_; have HO292 := n1_; clear n0_ n1_; clear ho hb hg hat))
                go_roundg k1
                case measure => have := HK1.out; omega
                case rel => exact ⟨(y290), (wrap64 (x9_1 + 1)), (by first | rfl | (simp; done) | (simp [*]; done)), H', ⟨by have := HK1.out; omega⟩, ⟨by (with_reducible repeat (first | apply Kd.R_alloc | apply Kd.R_drewN | apply Kd.R_drew)); exact HO292.out⟩, ⟨by repeat (first | (with_reducible first | exact HB.out | apply below_alloc | apply pw_below_drewN | apply below_drew1) | exact HB.out)⟩⟩
              · rw [if_neg c17] at H
                exact absurd H (by simp)
          · rw [if_neg c4] at H
            exact absurd H (by simp)
        · rw [if_neg c3] at H
          exact absurd H (by simp)
      · rw [if_neg c2] at H
        have c2b0 : decide (x9_1 < (l0.length : Int)) = false := decide_eq_false c2
        clear c2
        obtain rfl := Option.some.inj H
        go_wp2
        go_ret
        exact ⟨_, by first | rfl | (simp [errW_none, errW_some] <;> rfl) | (simp [*, errW_none, errW_some] <;> rfl), by (with_reducible repeat (first | apply Kd.R_alloc | apply Kd.R_drewN | apply Kd.R_drew)); exact HO_3.out, by repeat (first | (with_reducible first | exact HB.out | apply below_alloc | apply pw_below_drewN | apply below_drew1) | exact HB.out)⟩
def runs_Encode.g (k : Nat) : List S98 → ByteArray → Option ByteArray
  | [], acc => some acc
  | x :: xs, acc => (pack_Put.f k x.f0).bind fun a => (pack_Put.f k (IntKind.u64.wrap x.f1)).bind fun b => if acc.size + a.size + b.size ≤ 140737488355328 then runs_Encode.g k xs ((acc ++ a) ++ b) else none
def runs_Encode.f (k : Nat) (l0 : List Int) : Option ByteArray := (runs_of_uint64.f k l0).bind fun t => if t.length < 4611686018427387904 then runs_Encode.g k t ByteArray.empty else none
theorem runs_Encode.mono : ∀ a0 k, LeO (runs_Encode.f k a0) (runs_Encode.f (k + 1) a0) := by
  have hg : ∀ (k : Nat) (l : List S98) (acc : ByteArray), LeO (runs_Encode.g k l acc) (runs_Encode.g (k + 1) l acc) := by
    intro k l
    induction l with
    | nil => intro acc; exact LeO.refl _
    | cons x xs ih =>
      intro acc
      unfold runs_Encode.g
      refine LeO.bind (pack_Put.mono _ _) fun a => LeO.bind (pack_Put.mono _ _) fun b => LeO.ite (ih _) (LeO.refl _)
  intro a0 k
  exact LeO.bind (runs_of_uint64.mono _ _) fun t => LeO.ite (hg k t _) (LeO.refl _)
set_option maxHeartbeats 8000000 in
set_option maxRecDepth 100000 in
theorem runs_Encode.calls (k : Nat) (A0 : Option Addr) (c0 : Nat) (l0 : List Int) (r : ByteArray) (w : World) (hr0 : Kd.C (Kd.int .u64) w A0 l0.length l0) (hc0 : l0.length ≤ c0) (h : runs_Encode.f k l0 = some r) :
    Calls Try.prog 44 #[.slice A0 l0.length c0] w fun e w' => e = .returned (.string r) ∧ Below w.heap.size w w' := by
  have hu98 := Try.underlying98
  have H := h
  clear h
  unfold runs_Encode.f at H
  obtain ⟨t, A20, H⟩ := Option.bind_eq_some_iff.mp H
  have A2 := Aside0.mk A20
  by_cases hlen : t.length < 4611686018427387904
  case neg => rw [if_neg hlen] at H; exact absurd H (by simp)
  rw [if_pos hlen] at H
  have LM := Aside0.mk hlen
  clear hlen
  have H' := Aside0.mk H
  have HR0 := Aside0.mk hr0
  have HC0 := Aside0.mk hc0
  clear A20 H hr0 hc0
  have HB := Aside0.mk (Below.refl w.heap.size w)
  go_enter Try.func44, Try.ntmps44
  go_wp2_with (go_at_call 89; (with_reducible refine (runs_of_uint64.calls k _ _ l0 t _ ?side1 ?side2 A2.out).mono ?_); (case side1 => (with_reducible refine Kd.C_alloc ?_ _); exact HR0.out); (case side2 => exact HC0.out); rintro e w3 ⟨v0, rfl, ho0, hb⟩; obtain ⟨Ao4, co4, eo4⟩ := Kd.R_slice ho0; subst eo4)
  have hbb : w3.heap[w.heap.size]? = some (.cells #[.pointer none, .slice none 0 0] 102 (0, 0)) := by rw [hb.block _ (by show _ < (w.heap.push _).size; simp)]; show (w.heap.push _)[w.heap.size]? = _; simp
  have hBld : Build.Bld w.heap.size w.heap.size ByteArray.empty w3 := (Build.Bld.fresh w).below hb
  have HO := Aside0.mk (Kd.R_lower ho0 (show w.heap.size ≤ (w.alloc (.cells #[.pointer none, .slice none 0 0] 102)).heap.size from by show _ ≤ (w.heap.push _).size; simp))
  have HB3 := Aside0.mk (below_step (by repeat (first | (with_reducible first | exact HB.out | apply below_alloc | apply pw_below_drewN | apply below_drew1) | exact HB.out)) hb)
  have HBl := Aside0.mk hBld
  clear hb ho0 hBld hbb HB
  go_loopg [9] (t.length + 1) (fun kq v9 w' => ∃ (x9 : Int) (acc : ByteArray), v9 = .int .i64 x9 ∧ Aside0 (0 ≤ x9 ∧ x9 ≤ t.length ∧ (kq : Int) + x9 = t.length + 1) ∧ Aside0 (runs_Encode.g k (t.drop x9.toNat) acc = some r) ∧ Aside0 (Build.Bld w.heap.size w.heap.size acc w') ∧ Aside0 (Kd.R k98 98 w' w.heap.size (fun _ => True) (.slice Ao4 t.length co4) t) ∧ Aside0 (Below w.heap.size w w'))
  case atStart => exact ⟨0, ByteArray.empty, by simp, ⟨by omega⟩, H', HBl, HO, HB3⟩
  case round =>
    clear HO HB3 HBl H'
    obtain ⟨x9, acc, rfl, HK, HG, HBl, HO, HB⟩ := hrel
    cases gk with
    | zero => have := HK.out; exact absurd this (by omega)
    | succ k1 =>
      by_cases hi : x9 < (t.length : Int)
      · have c5b0 : decide (x9 < (t.length : Int)) = true := decide_eq_true (by omega)
        have hk9 := HK.out
        have hdrop : t.drop x9.toNat = rd_T98 t x9 :: t.drop (x9.toNat + 1) := by
          rw [List.drop_eq_getElem_cons (show x9.toNat < t.length by omega)]
          congr 1
          unfold rd_T98
          simp [List.getD_eq_getElem?_getD, show x9.toNat < t.length by omega]
        have hG := HG.out
        clear HG
        rw [hdrop] at hG
        unfold runs_Encode.g at hG
        obtain ⟨a, A30, hG⟩ := Option.bind_eq_some_iff.mp hG
        obtain ⟨b, A40, hG⟩ := Option.bind_eq_some_iff.mp hG
        by_cases hz : acc.size + a.size + b.size ≤ 140737488355328
        · rw [if_pos hz] at hG
          have H' := Aside0.mk hG
          have A3 := Aside0.mk A30
          have A4 := Aside0.mk A40
          clear hG A30 A40 hdrop
          have p290 : 0 ≤ x9 := by omega
          have q290 : x9 < (t.length : Int) := by omega
          obtain ⟨ad290, e290, hx290_0, hx290_1⟩ := at_T98 (Kd.R_reads' HO.out).2.2 x9 p290 q290
          cases e290
          have hi0 := Aside0.mk hi
          clear hi hk9
          replace p290 := eq_true p290
          replace q290 := eq_true q290
          go_wp2_with (go_at_call 78; (with_reducible refine (pack_Put.calls k _ a _ A3.out).mono ?_); rintro e w5 ⟨rfl, hb⟩; have n0_ := Aside0.mk ((HBl.out.alloc _).below hb); have n1_ := Aside0.mk (Kd.R_below (Kd.R_alloc HO.out _) hb); have n2_ := Aside0.mk (below_step (by repeat (first | (with_reducible first | exact HB.out | apply below_alloc | apply pw_below_drewN | apply below_drew1) | exact HB.out)) hb); have hk5 := (hb.block wr.heap.size (by show _ < (wr.heap.push _).size; simp)).trans (blk_new wr _); clear HBl HO HB hb hx290_0 hx290_1; have HBl := n0_; have HO := n1_; have HB := n2_; clear n0_ n1_ n2_)
          go_wp2_with (go_at_call 90; (with_reducible refine (Build.write w.heap.size w.heap.size acc a _ HBl.out (by omega) (below_size HB.out)).mono ?_); rintro e w6 ⟨rfl, hbl, hb, hk⟩; obtain ⟨bs, hbs⟩ := HBl.out.block; have n0_ := Aside0.mk (Build.R_kept HO.out hk ⟨bs, hbs⟩ (by decide)); have n2_ := Aside0.mk (HB.out.trans hb); have hk6 := Build.block_kept hk hbs hk5 (by decide); have hc1 : w6.cell? ⟨wr.heap.size, 1, none⟩ = some (.int .i64 (rd_T98 t x9).f1) := (blk_cell hk6 1).trans rfl; clear HBl HO HB hb hk hk5 hbs; have HBl := Aside0.mk hbl; have HO := n0_; have HB := n2_; clear n0_ n2_ hbl)
          go_wp2_with (go_at_call 78; (with_reducible refine (pack_Put.calls k _ b _ A4.out).mono ?_); rintro e w7 ⟨rfl, hb⟩; have n0_ := Aside0.mk (HBl.out.below hb); have n1_ := Aside0.mk (Kd.R_below HO.out hb); have n2_ := Aside0.mk (below_step HB.out hb); clear HBl HO HB hb hc1; have HBl := n0_; have HO := n1_; have HB := n2_; clear n0_ n1_ n2_)
          go_wp2_with (go_at_call 90; (with_reducible refine (Build.write w.heap.size w.heap.size (acc ++ a) b _ HBl.out (by rw [ByteArray.size_append]; omega) (below_size HB.out)).mono ?_); rintro e w8 ⟨rfl, hbl, hb, hk⟩; have n0_ := Aside0.mk (Build.R_kept HO.out hk HBl.out.block (by decide)); have n2_ := Aside0.mk (HB.out.trans hb); clear HBl HO HB hb hk; have HBl := Aside0.mk hbl; have HO := n0_; have HB := n2_; clear n0_ n2_ hbl)
          go_roundg k1
          case measure => have := HK.out; omega
          case rel => exact ⟨wrap64 (x9 + 1), (acc ++ a) ++ b, (by first | rfl | (simp; done) | (simp [*]; done)), ⟨by have := HK.out; have := hi0.out; have := LM.out; unfold wrap64; omega⟩, ⟨by rw [show (wrap64 (x9 + 1)).toNat = x9.toNat + 1 by have := HK.out; have := LM.out; unfold wrap64; omega]; exact H'.out⟩, HBl, HO, HB⟩
        · rw [if_neg hz] at hG
          exact absurd hG (by simp)
      · have c5b0 : decide (x9 < (t.length : Int)) = false := decide_eq_false hi
        have hk9 := HK.out
        have hG := HG.out
        rw [List.drop_eq_nil_of_le (by omega)] at hG
        unfold runs_Encode.g at hG
        obtain rfl := Option.some.inj hG
        clear hG HG hi hk9
        go_wp2_with (go_at_call 91; (with_reducible refine (Build.string w.heap.size w.heap.size acc _ HBl.out (below_size HB.out)).mono ?_); rintro e w9 ⟨rfl, hb, hk⟩; have n2_ := Aside0.mk (HB.out.trans hb); clear HB; have HB := n2_; clear n2_)
        go_ret
        exact ⟨rfl, HB.out⟩
end Go.Proofs.Ytbgjoiccehiglaa.Print
end
section
namespace Go.Proofs.Ytbgjoiccehiglaa.LibV
open Go.RowKit Go.Proofs.Ytbgjoiccehiglaa.Print Go.Proofs.YtbgjoiccehiglaaW.PrintWords Go.Proofs.YtbgjoiccehiglaaW.PrintLast Go.Proofs.YtbgjoiccehiglaaW.PrintMore Go.Proofs.Ytbgjoiccehiglaa.LibU
theorem w64 {n : Int} (h0 : -9223372036854775808 ≤ n) (h1 : n ≤ 9223372036854775807) : wrap64 n = n := by unfold wrap64; omega
end Go.Proofs.Ytbgjoiccehiglaa.LibV
end
section
namespace Go.Proofs.Ytbgjoiccehiglaa.LibA
open Go.RowKit Go.Proofs.Ytbgjoiccehiglaa.Print Go.Proofs.YtbgjoiccehiglaaW.PrintWords Go.Proofs.YtbgjoiccehiglaaW.PrintLast
def SgAt (s : ByteArray) (i m : Int) : Prop :=
  (sgH (bt s i)).2.2.2 = true ∧ m = 1 + (sgH (bt s i)).1 ∧ i + m ≤ s.size ∧ sgR s (sgH (bt s i)).1.toNat (i + 1) (sgH (bt s i)).2.1 (sgH (bt s i)).2.2.1 = true
theorem SgAt.pos {s : ByteArray} {i m : Int} (h : SgAt s i m) : 1 ≤ m ∧ m ≤ 4 ∧ i + m ≤ s.size := by
  have := sgH_rest (bt s i)
  obtain ⟨_, rfl, h3, _⟩ := h
  omega
theorem SgAt.det {s : ByteArray} {i m m' : Int} (h : SgAt s i m) (h' : SgAt s i m') : m = m' := by
  rw [h.2.1, h'.2.1]
inductive Ch (s : ByteArray) : Nat → Int → Int → Prop
  | nil (i : Int) : Ch s 0 i i
  | cons {n : Nat} {i m j : Int} (h : SgAt s i m) (t : Ch s n (i + m) j) : Ch s (n + 1) i j
theorem Ch.size {s : ByteArray} {n : Nat} {i j : Int} (h : Ch s n i j) (hi : i ≤ s.size) : j ≤ s.size := by
  induction h with
  | nil => exact hi
  | cons h t ih => exact ih h.pos.2.2
theorem Ch.snoc {s : ByteArray} {n : Nat} {i j m : Int} (h : Ch s n i j) (hm : SgAt s j m) : Ch s (n + 1) i (j + m) := by
  induction h with
  | nil => exact .cons hm (.nil _)
  | cons h t ih => exact .cons h (ih hm)
theorem Ch.trans {s : ByteArray} {n n' : Nat} {i j k : Int} (h : Ch s n i j) (h' : Ch s n' j k) : Ch s (n + n') i k := by
  induction h with
  | nil => simpa using h'
  | cons h t ih => rw [show ∀ a b : Nat, a + 1 + b = (a + b) + 1 by omega]; exact .cons h (ih h')
theorem Ch.split {s : ByteArray} {n n' : Nat} {i j j' : Int} (h : Ch s n i j) (h' : Ch s n' i j') : (∃ c, n' = n + c ∧ Ch s c j j') ∨ (∃ c m, SgAt s j' m ∧ Ch s c (j' + m) j) := by
  induction h generalizing n' with
  | nil => exact .inl ⟨n', by omega, h'⟩
  | cons h t ih =>
    cases h' with
    | nil => exact .inr ⟨_, _, h, t⟩
    | cons h2 t2 =>
      have := h.det h2
      subst this
      rcases ih t2 with ⟨c, hc, hch⟩ | r
      · exact .inl ⟨c, by omega, hch⟩
      · exact .inr r
def Vld (s : ByteArray) : Prop := ∃ c, Ch s c 0 s.size
end Go.Proofs.Ytbgjoiccehiglaa.LibA
end
namespace Go.Proofs.Ytbgjoiccehiglaa.Print
end Go.Proofs.Ytbgjoiccehiglaa.Print
namespace Go.Proofs.Ytbgjoiccehiglaa.Print
end Go.Proofs.Ytbgjoiccehiglaa.Print
section
namespace Go.Proofs.Ytbgjoiccehiglaa.LibB
open Go.RowKit Go.Proofs.Ytbgjoiccehiglaa.Print Go.Proofs.YtbgjoiccehiglaaW.PrintWords Go.Proofs.YtbgjoiccehiglaaW.PrintLast Go.Proofs.YtbgjoiccehiglaaW.PrintMore Go.Proofs.Ytbgjoiccehiglaa.LibA
theorem w64 {n : Int} (h0 : -9223372036854775808 ≤ n) (h1 : n ≤ 9223372036854775807) : wrap64 n = n := by unfold wrap64; omega
noncomputable instance (s : ByteArray) : Decidable (Vld s) := Classical.propDecidable _
end Go.Proofs.Ytbgjoiccehiglaa.LibB
end
section
namespace Go.Proofs.Ytbgjoiccehiglaa.LibC
open Go.RowKit Go.Proofs.Ytbgjoiccehiglaa.Print Go.Proofs.YtbgjoiccehiglaaW.PrintWords Go.Proofs.YtbgjoiccehiglaaW.PrintLast Go.Proofs.YtbgjoiccehiglaaW.PrintMore Go.Proofs.Ytbgjoiccehiglaa.LibA Go.Proofs.Ytbgjoiccehiglaa.LibB
def putL : Nat → Int → List Int
  | 0, x => [x]
  | d + 1, x => if x ≥ 128 then (x % 128 + 128) :: putL d (x / 128) else [x]
end Go.Proofs.Ytbgjoiccehiglaa.LibC
end
namespace Go.Proofs.Ytbgjoiccehiglaa.Print
end Go.Proofs.Ytbgjoiccehiglaa.Print
namespace Go.Proofs.Ytbgjoiccehiglaa.LibD
end Go.Proofs.Ytbgjoiccehiglaa.LibD
namespace Go.Proofs.Ytbgjoiccehiglaa.Print
end Go.Proofs.Ytbgjoiccehiglaa.Print
namespace Go.Proofs.Ytbgjoiccehiglaa.LibE
end Go.Proofs.Ytbgjoiccehiglaa.LibE
namespace Go.Proofs.Ytbgjoiccehiglaa.LibF
end Go.Proofs.Ytbgjoiccehiglaa.LibF
namespace Go.Proofs.Ytbgjoiccehiglaa.LibG
end Go.Proofs.Ytbgjoiccehiglaa.LibG
section
namespace Go.Proofs.Ytbgjoiccehiglaa.Print
open Go.RowKit Go.Proofs.YtbgjoiccehiglaaW.PrintWords Go.Proofs.YtbgjoiccehiglaaW.PrintLast Go.Proofs.YtbgjoiccehiglaaW.PrintMore
attribute [local go_sem] max2_int min2_int max_two min_two max_three min_three max_four min_four
set_option linter.unusedVariables false
set_option linter.unusedSimpArgs false
def bonsairef06_Same.l0 : Nat → List Int → List Int → Int → Option (Bool)
  | 0, _, _, _ => none
  | k + 1, x0, x1, x5 => if x5 < (x0.length : Int) then (if 0 ≤ x5 then (if x5 < (x1.length : Int) then (if (rd x0 x5) = (rd x1 x5) then (bonsairef06_Same.l0 k x0 x1 (wrap64 (x5 + 1))) else (some false)) else (none)) else (none)) else (some true)
def bonsairef06_Same.f (k : Nat) (l0 : List Int) (l1 : List Int) : Option (Bool) := if (l0.length : Int) = (l1.length : Int) then (bonsairef06_Same.l0 k l0 l1 0) else (some false)
theorem bonsairef06_Same.mono_l : ∀ k, (∀ y0 y1 y2, LeO (bonsairef06_Same.l0 k y0 y1 y2) (bonsairef06_Same.l0 (k + 1) y0 y1 y2))
  | 0 => fun _ _ _ r h => by simp [bonsairef06_Same.l0] at h
  | k + 1 => by
    have ih0 := bonsairef06_Same.mono_l k
    · intro y0 y1 y2
      unfold bonsairef06_Same.l0
      repeat' first
      | (with_reducible exact ih0 _ _ _)
      | (with_reducible exact LeO.refl _)
      | (with_reducible exact LeO.none _)
      | (with_reducible refine LeO.ite ?_ ?_)
      | (with_reducible refine LeO.bind ?_ (fun _ => ?_))
      | exact ih0 _ _ _
      | exact LeO.none _
      | refine LeO.ite ?_ ?_
      | refine LeO.bind ?_ (fun _ => ?_)
theorem bonsairef06_Same.mono : ∀ a0 a1 k, LeO (bonsairef06_Same.f k a0 a1) (bonsairef06_Same.f (k + 1) a0 a1) := by
  intro a0 a1 k
  have ih0 := bonsairef06_Same.mono_l k
  unfold bonsairef06_Same.f
  repeat' first
      | (with_reducible exact ih0 _ _ _)
      | (with_reducible exact LeO.refl _)
      | (with_reducible exact LeO.none _)
      | (with_reducible refine LeO.ite ?_ ?_)
      | (with_reducible refine LeO.bind ?_ (fun _ => ?_))
      | exact ih0 _ _ _
      | exact LeO.none _
      | refine LeO.ite ?_ ?_
      | refine LeO.bind ?_ (fun _ => ?_)
set_option maxHeartbeats 8000000 in
set_option maxRecDepth 100000 in
theorem bonsairef06_Same.calls (k : Nat) (A0 : Option Addr) (c0 : Nat) (l0 : List Int) (A1 : Option Addr) (c1 : Nat) (l1 : List Int) (r : Bool) (w : World) (hr0 : Kd.C (Kd.int .u64) w A0 l0.length l0) (hc0 : l0.length ≤ c0) (hr1 : Kd.C (Kd.int .u64) w A1 l1.length l1) (hc1 : l1.length ≤ c1) (h : bonsairef06_Same.f k l0 l1 = some r) :
    Calls Try.prog 48 #[.slice A0 l0.length c0, .slice A1 l1.length c1] w fun e w' => e = .returned (.bool r) ∧ Drawn0 w w' := by
  have HR0 := Aside0.mk hr0
  have HC0 := Aside0.mk hc0
  clear hr0 hc0
  have HR1 := Aside0.mk hr1
  have HC1 := Aside0.mk hc1
  clear hr1 hc1
  have H : (if (l0.length : Int) = (l1.length : Int) then (bonsairef06_Same.l0 k l0 l1 0) else (some false)) = some r := h
  clear h
  by_cases c3 : (l0.length : Int) = (l1.length : Int)
  · rw [if_pos c3] at H
    have c3b0 : ((l0.length : Int) == (l1.length : Int)) = true := beq_iff_eq.mpr c3
    have c3b1 : ((l0.length : Int) != (l1.length : Int)) = false := bne_eq_false_iff_eq.mpr c3
    have c3b2 : (l0.length == l1.length) = true := by first | simpa using c3 | (simp at c3 ⊢; omega)
    clear c3
    have H' := Aside0.mk H
    clear H
    go_enter Try.func48, Try.ntmps48
    go_wp2
    repeat (go_quiet (fail); try go_wp2)
    go_loopg [5] k (fun kq v5 w' => ∃ (x5_1 : Int), v5 = .int .i64 x5_1 ∧ Aside0 (bonsairef06_Same.l0 kq l0 l1 x5_1 = some r) ∧ Aside0 (kq ≤ k) ∧ Drawn0 w w')
    case atStart => exact ⟨(0), (by first | rfl | (simp; done) | (simp [*]; done)), H', ⟨Nat.le_refl _⟩, by repeat (first | exact Drawn0.refl _ | apply Drawn0.step)⟩
    case round =>
      clear H'
      try clear c1
      try clear p2
      try clear c3
      try clear c3b0
      try clear c3b1
      try clear c3b2
      obtain ⟨x5_1, rfl, HA, HK1, ⟨m1, rfl⟩⟩ := hrel
      cases gk with
      | zero => exact absurd HA.out (by simp [bonsairef06_Same.l0])
      | succ k1 =>
        have H := HA.out
        clear HA
        simp only [bonsairef06_Same.l0] at H
        by_cases c4 : x5_1 < (l0.length : Int)
        · rw [if_pos c4] at H
          have c4b0 : decide (x5_1 < (l0.length : Int)) = true := decide_eq_true c4
          clear c4
          by_cases c5 : 0 ≤ x5_1
          · rw [if_pos c5] at H
            have c5b0 : decide (0 ≤ x5_1) = true := decide_eq_true c5
            clear c5
            by_cases c6 : x5_1 < (l1.length : Int)
            · rw [if_pos c6] at H
              have c6b0 : decide (x5_1 < (l1.length : Int)) = true := decide_eq_true c6
              clear c6
              by_cases c7 : (rd l0 x5_1) = (rd l1 x5_1)
              · rw [if_pos c7] at H
                have c7b0 : ((rd l0 x5_1) == (rd l1 x5_1)) = true := beq_iff_eq.mpr c7
                have c7b1 : ((rd l0 x5_1) != (rd l1 x5_1)) = false := bne_eq_false_iff_eq.mpr c7
                clear c7
                have H' := Aside0.mk H
                clear H
                have p301 : 0 ≤ (x5_1 : Int) := of_decide_eq_true (by first | (with_reducible assumption) | assumption)
                have q301 : x5_1 < (l0.length : Int) := of_decide_eq_true (by first | (with_reducible assumption) | assumption)
                obtain ⟨ad301, e301, hx301_0⟩ := Kd.at_int HR0.out x5_1 p301 q301
                cases e301
                replace p301 := eq_true p301
                replace q301 := eq_true q301
                have p302 : 0 ≤ (x5_1 : Int) := of_decide_eq_true (by first | (with_reducible assumption) | assumption)
                have q302 : x5_1 < (l1.length : Int) := of_decide_eq_true (by first | (with_reducible assumption) | assumption)
                obtain ⟨ad302, e302, hx302_0⟩ := Kd.at_int HR1.out x5_1 p302 q302
                cases e302
                replace p302 := eq_true p302
                replace q302 := eq_true q302
                go_wp2
                repeat (go_quiet (fail); try go_wp2)
                go_roundg k1
                case measure => have := HK1.out; omega
                case rel => exact ⟨(wrap64 (x5_1 + 1)), (by first | rfl | (simp; done) | (simp [*]; done)), H', ⟨by have := HK1.out; omega⟩, by repeat (first | exact Drawn0.refl _ | apply Drawn0.step)⟩
              · rw [if_neg c7] at H
                have c7b0 : ((rd l0 x5_1) == (rd l1 x5_1)) = false := beq_eq_false_iff_ne.mpr c7
                have c7b1 : ((rd l0 x5_1) != (rd l1 x5_1)) = true := bne_iff_ne.mpr c7
                obtain rfl := Option.some.inj H
                have p301 : 0 ≤ (x5_1 : Int) := of_decide_eq_true (by first | (with_reducible assumption) | assumption)
                have q301 : x5_1 < (l0.length : Int) := of_decide_eq_true (by first | (with_reducible assumption) | assumption)
                obtain ⟨ad301, e301, hx301_0⟩ := Kd.at_int HR0.out x5_1 p301 q301
                cases e301
                replace p301 := eq_true p301
                replace q301 := eq_true q301
                have p302 : 0 ≤ (x5_1 : Int) := of_decide_eq_true (by first | (with_reducible assumption) | assumption)
                have q302 : x5_1 < (l1.length : Int) := of_decide_eq_true (by first | (with_reducible assumption) | assumption)
                obtain ⟨ad302, e302, hx302_0⟩ := Kd.at_int HR1.out x5_1 p302 q302
                cases e302
                replace p302 := eq_true p302
                replace q302 := eq_true q302
                go_wp2
                repeat (go_quiet (fail); try go_wp2)
                go_ret
                exact ⟨by first | rfl | (simp; done) | (simp [*]; done), by repeat (first | exact Drawn0.refl _ | apply Drawn0.step)⟩
            · rw [if_neg c6] at H
              exact absurd H (by simp)
          · rw [if_neg c5] at H
            exact absurd H (by simp)
        · rw [if_neg c4] at H
          have c4b0 : decide (x5_1 < (l0.length : Int)) = false := decide_eq_false c4
          clear c4
          obtain rfl := Option.some.inj H
          go_wp2
          repeat (go_quiet (fail); try go_wp2)
          go_ret
          exact ⟨by first | rfl | (simp; done) | (simp [*]; done), by repeat (first | exact Drawn0.refl _ | apply Drawn0.step)⟩
  · rw [if_neg c3] at H
    have c3b0 : ((l0.length : Int) == (l1.length : Int)) = false := beq_eq_false_iff_ne.mpr c3
    have c3b1 : ((l0.length : Int) != (l1.length : Int)) = true := bne_iff_ne.mpr c3
    have c3b2 : (l0.length == l1.length) = false := by first | simpa using c3 | (simp at c3 ⊢; omega)
    obtain rfl := Option.some.inj H
    go_enter Try.func48, Try.ntmps48
    go_wp2
    repeat (go_quiet (fail); try go_wp2)
    go_ret
    exact ⟨by first | rfl | (simp; done) | (simp [*]; done), by repeat (first | exact Drawn0.refl _ | apply Drawn0.step)⟩
def runs_Decode.l0 : Nat → Int → List (S53) → Int → ByteArray → Int → Option (List Int × Int)
  | 0, _, _, _, _, _ => none
  | k + 1, x1, x7, x8, x306000, x306001 => (pack_Reader_Left.f x306000 x306001).bind fun bt306 => (if bt306.1 > 0 then ((pack_Reader_Num.f bt306.2.1 bt306.2.2).bind fun bt313 => ((pack_Reader_Num.f bt313.2.1 bt313.2.2).bind fun bt316 => ((pack_Reader_Err.f bt316.2.1 bt316.2.2).bind fun bt319 => (if bt319.1 = 0 then (if bt316.1 = 0 then (some (([] : List Int), 5)) else (if bt316.1 > (IntKind.u64.wrap (x8)) then (some (([] : List Int), 5)) else (if (wrap64 ((x7.length : Int) - 1)) ≥ 0 then (if 0 ≤ (wrap64 ((x7.length : Int) - 1)) then (if (wrap64 ((x7.length : Int) - 1)) < (x7.length : Int) then (if ((rd_T53 x7 (wrap64 ((x7.length : Int) - 1))).f0) = bt313.1 then (some (([] : List Int), 5)) else (if x7.length < 8796093022208 then (runs_Decode.l0 k x1 (x7 ++ [(⟨bt313.1, wrap64 (bt316.1)⟩ : S53)]) (wrap64 (x8 - (wrap64 (bt316.1)))) bt319.2.1 bt319.2.2) else (none))) else (none)) else (none)) else (if x7.length < 8796093022208 then (runs_Decode.l0 k x1 (x7 ++ [(⟨bt313.1, wrap64 (bt316.1)⟩ : S53)]) (wrap64 (x8 - (wrap64 (bt316.1)))) bt319.2.1 bt319.2.2) else (none))))) else (some (([] : List Int), bt319.1)))))) else (if x8 > 0 then (some (([] : List Int), 5)) else ((runs_Spread.f k x7 x1).bind fun bt309 => (some (bt309.1, 0)))))
def runs_Decode.f (k : Nat) (a0 : ByteArray) (a1 : Int) : Option (List Int × Int) := if a1 < 0 then (some (([] : List Int), 1)) else (if a1 > 4096 then (some (([] : List Int), 10)) else ((pack_New.f a0).bind fun bt303 => (runs_Decode.l0 k a1 ([] : List (S53)) a1 bt303.1 bt303.2)))
theorem runs_Decode.mono_l : ∀ k, (∀ y0 y1 y2 y3 y4, LeO (runs_Decode.l0 k y0 y1 y2 y3 y4) (runs_Decode.l0 (k + 1) y0 y1 y2 y3 y4))
  | 0 => fun _ _ _ _ _ r h => by simp [runs_Decode.l0] at h
  | k + 1 => by
    have ih0 := runs_Decode.mono_l k
    · intro y0 y1 y2 y3 y4
      unfold runs_Decode.l0
      repeat' first
      | (with_reducible exact ih0 _ _ _ _ _)
      | (with_reducible exact runs_Spread.mono _ _ _)
      | (with_reducible exact LeO.refl _)
      | (with_reducible exact LeO.none _)
      | (with_reducible refine LeO.ite ?_ ?_)
      | (with_reducible refine LeO.bind ?_ (fun _ => ?_))
      | exact ih0 _ _ _ _ _
      | exact runs_Spread.mono _ _ _
      | exact LeO.none _
      | refine LeO.ite ?_ ?_
      | refine LeO.bind ?_ (fun _ => ?_)
theorem runs_Decode.mono : ∀ a0 a1 k, LeO (runs_Decode.f k a0 a1) (runs_Decode.f (k + 1) a0 a1) := by
  intro a0 a1 k
  have ih0 := runs_Decode.mono_l k
  unfold runs_Decode.f
  repeat' first
      | (with_reducible exact ih0 _ _ _ _ _)
      | (with_reducible exact runs_Spread.mono _ _ _)
      | (with_reducible exact LeO.refl _)
      | (with_reducible exact LeO.none _)
      | (with_reducible refine LeO.ite ?_ ?_)
      | (with_reducible refine LeO.bind ?_ (fun _ => ?_))
      | exact ih0 _ _ _ _ _
      | exact runs_Spread.mono _ _ _
      | exact LeO.none _
      | refine LeO.ite ?_ ?_
      | refine LeO.bind ?_ (fun _ => ?_)
set_option maxHeartbeats 8000000 in
set_option maxRecDepth 100000 in
theorem runs_Decode.calls (k : Nat) (a0 : ByteArray) (a1 : Int) (r1 : List Int) (r2 : Int) (w : World) (h : runs_Decode.f k a0 a1 = some (r1, r2)) :
    Calls Try.prog 49 #[.string a0, .int .i64 a1] w fun e w' => ∃ v0_ : Value, e = .returned (.tuple #[v0_, .int .i64 r2]) ∧ Kd.R (Kd.int .u64) 51 w' w.heap.size (fun _ => True) v0_ r1 ∧ Below w.heap.size w w' := by
  have hu53 := Try.underlying53
  have HB := Aside0.mk (Below.refl w.heap.size w)
  have H : (if a1 < 0 then (some (([] : List Int), 1)) else (if a1 > 4096 then (some (([] : List Int), 10)) else ((pack_New.f a0).bind fun bt303 => (runs_Decode.l0 k a1 ([] : List (S53)) a1 bt303.1 bt303.2)))) = some (r1, r2) := h
  clear h
  by_cases c3 : a1 < 0
  · rw [if_pos c3] at H
    have c3b0 : decide (a1 < 0) = true := decide_eq_true c3
    clear c3
    simp only [Option.some.injEq, Prod.mk.injEq] at H
    obtain ⟨rfl, rfl⟩ := H
    go_enter Try.func49, Try.ntmps49
    go_wp2
    go_ret2
    exact ⟨_, by first | rfl | (simp [errW_none, errW_some] <;> rfl) | (simp [*, errW_none, errW_some] <;> rfl), by first | exact Kd.R_nil _ _ _ _ _ | exact Kd.N_nil _ _ _ _ _ | exact Kd.V_nil _ _ _ _ _ | exact Kd.Q_nil _ _ _ _ _ | exact Kd.S_nil _ _ _ _ _, by repeat (first | (with_reducible first | exact HB.out | apply below_alloc | apply pw_below_drewN | apply below_drew1) | exact HB.out)⟩
  · rw [if_neg c3] at H
    have c3b0 : decide (a1 < 0) = false := decide_eq_false c3
    clear c3
    by_cases c4 : a1 > 4096
    · rw [if_pos c4] at H
      have c4b0 : decide (4096 < a1) = true := decide_eq_true c4
      clear c4
      simp only [Option.some.injEq, Prod.mk.injEq] at H
      obtain ⟨rfl, rfl⟩ := H
      go_enter Try.func49, Try.ntmps49
      go_wp2
      go_ret2
      exact ⟨_, by first | rfl | (simp [errW_none, errW_some] <;> rfl) | (simp [*, errW_none, errW_some] <;> rfl), by first | exact Kd.R_nil _ _ _ _ _ | exact Kd.N_nil _ _ _ _ _ | exact Kd.V_nil _ _ _ _ _ | exact Kd.Q_nil _ _ _ _ _ | exact Kd.S_nil _ _ _ _ _, by repeat (first | (with_reducible first | exact HB.out | apply below_alloc | apply pw_below_drewN | apply below_drew1) | exact HB.out)⟩
    · rw [if_neg c4] at H
      have c4b0 : decide (4096 < a1) = false := decide_eq_false c4
      clear c4
      replace H := Option.bind_eq_some_iff.mp H
      obtain ⟨⟨t303, t304⟩, A50, H⟩ := H
      replace H : (runs_Decode.l0 k a1 ([] : List (S53)) a1 t303 t304) = some (r1, r2) := H
      have A5 := Aside0.mk A50
      clear A50
      have H' := Aside0.mk H
      clear H
      go_enter Try.func49, Try.ntmps49
      go_wp2_with (first | ((with_reducible refine gate_callee (f := 80) rfl ?_); refine goesL_ (some 22) rfl rfl Try.func80 (by kernel_rfl) rfl #[.string a0] rfl (by (try simp only [List.map_toArray, List.map_cons, List.map_nil]); first | done | rfl | (simp only [List.length_drop, List.length_take]; rfl)) ?_; (with_reducible refine (pack_New.calls a0 t303 t304 w _ ?side1 A5.out).mono ?_); (case side1 => repeat (first | (with_reducible first | exact HB.out | apply below_alloc | apply pw_below_drewN | apply below_drew1) | exact HB.out)); rintro e w6 ⟨g305, rfl, hi, hb, hb2⟩; refine ⟨_, rfl, ?_⟩; have n0_ := Aside0.mk (hb); have n1_ := Aside0.mk (hi); clear HB; have HB := n0_; have HI305 := n1_; clear n0_ n1_; (try clear hb); (try clear hb2); (try clear hk); (try clear hi)))
      go_loopg [7, 8] k (fun kq v7 v8 w' => ∃ (x7_1 : List (S53)) (x8_1 : Int) (x306000_1 : ByteArray) (x306001_1 : Int), v8 = .int .i64 x8_1 ∧ Aside0 (runs_Decode.l0 kq a1 x7_1 x8_1 x306000_1 x306001_1 = some (r1, r2)) ∧ Aside0 (kq ≤ k) ∧ Aside0 (Kd.R k53 53 w' w.heap.size (fun _ => True) v7 x7_1) ∧ Aside0 (IsS120 w w' g305 x306000_1 x306001_1) ∧ Aside0 (Below w.heap.size w w'))
      case atStart => exact ⟨(([] : List (S53))), (a1), (t303), (t304), (by first | rfl | (simp; done) | (simp [*]; done)), H', ⟨Nat.le_refl _⟩, ⟨by first | exact Kd.R_nil _ _ _ _ _ | exact Kd.N_nil _ _ _ _ _ | exact Kd.V_nil _ _ _ _ _ | exact Kd.Q_nil _ _ _ _ _ | exact Kd.S_nil _ _ _ _ _⟩, ⟨by repeat (first | (with_reducible first | exact HI305.out | apply IsS120.alloc | apply IsS120.drewN | apply IsS120.drew | apply IsS120.set_0 | apply IsS120.set_1) | exact HI305.out)⟩, ⟨by repeat (first | (with_reducible first | exact HB.out | apply below_alloc | apply pw_below_drewN | apply below_drew1 | refine below_set ?_ (IsS120.ge HI305.out)) | exact HB.out)⟩⟩
      case round =>
        clear H'
        try clear p2
        try clear c3
        try clear c3b0
        try clear c4
        try clear c4b0
        obtain ⟨x7_1, x8_1, x306000_1, x306001_1, rfl, HA, HK1, HO_7, HI305, HB⟩ := hrel
        cases gk with
        | zero => exact absurd HA.out (by simp [runs_Decode.l0])
        | succ k1 =>
          have H := HA.out
          clear HA
          simp only [runs_Decode.l0] at H
          replace H := Option.bind_eq_some_iff.mp H
          obtain ⟨⟨t306, t307, t308⟩, A70, H⟩ := H
          replace H : (if t306 > 0 then ((pack_Reader_Num.f t307 t308).bind fun bt313 => ((pack_Reader_Num.f bt313.2.1 bt313.2.2).bind fun bt316 => ((pack_Reader_Err.f bt316.2.1 bt316.2.2).bind fun bt319 => (if bt319.1 = 0 then (if bt316.1 = 0 then (some (([] : List Int), 5)) else (if bt316.1 > (IntKind.u64.wrap (x8_1)) then (some (([] : List Int), 5)) else (if (wrap64 ((x7_1.length : Int) - 1)) ≥ 0 then (if 0 ≤ (wrap64 ((x7_1.length : Int) - 1)) then (if (wrap64 ((x7_1.length : Int) - 1)) < (x7_1.length : Int) then (if ((rd_T53 x7_1 (wrap64 ((x7_1.length : Int) - 1))).f0) = bt313.1 then (some (([] : List Int), 5)) else (if x7_1.length < 8796093022208 then (runs_Decode.l0 k1 a1 (x7_1 ++ [(⟨bt313.1, wrap64 (bt316.1)⟩ : S53)]) (wrap64 (x8_1 - (wrap64 (bt316.1)))) bt319.2.1 bt319.2.2) else (none))) else (none)) else (none)) else (if x7_1.length < 8796093022208 then (runs_Decode.l0 k1 a1 (x7_1 ++ [(⟨bt313.1, wrap64 (bt316.1)⟩ : S53)]) (wrap64 (x8_1 - (wrap64 (bt316.1)))) bt319.2.1 bt319.2.2) else (none))))) else (some (([] : List Int), bt319.1)))))) else (if x8_1 > 0 then (some (([] : List Int), 5)) else ((runs_Spread.f k1 x7_1 a1).bind fun bt309 => (some (bt309.1, 0))))) = some (r1, r2) := H
          have A7 := Aside0.mk A70
          clear A70
          by_cases c8 : t306 > 0
          · rw [if_pos c8] at H
            have c8b0 : decide (0 < t306) = true := decide_eq_true c8
            clear c8
            replace H := Option.bind_eq_some_iff.mp H
            obtain ⟨⟨t313, t314, t315⟩, A90, H⟩ := H
            replace H : ((pack_Reader_Num.f t314 t315).bind fun bt316 => ((pack_Reader_Err.f bt316.2.1 bt316.2.2).bind fun bt319 => (if bt319.1 = 0 then (if bt316.1 = 0 then (some (([] : List Int), 5)) else (if bt316.1 > (IntKind.u64.wrap (x8_1)) then (some (([] : List Int), 5)) else (if (wrap64 ((x7_1.length : Int) - 1)) ≥ 0 then (if 0 ≤ (wrap64 ((x7_1.length : Int) - 1)) then (if (wrap64 ((x7_1.length : Int) - 1)) < (x7_1.length : Int) then (if ((rd_T53 x7_1 (wrap64 ((x7_1.length : Int) - 1))).f0) = t313 then (some (([] : List Int), 5)) else (if x7_1.length < 8796093022208 then (runs_Decode.l0 k1 a1 (x7_1 ++ [(⟨t313, wrap64 (bt316.1)⟩ : S53)]) (wrap64 (x8_1 - (wrap64 (bt316.1)))) bt319.2.1 bt319.2.2) else (none))) else (none)) else (none)) else (if x7_1.length < 8796093022208 then (runs_Decode.l0 k1 a1 (x7_1 ++ [(⟨t313, wrap64 (bt316.1)⟩ : S53)]) (wrap64 (x8_1 - (wrap64 (bt316.1)))) bt319.2.1 bt319.2.2) else (none))))) else (some (([] : List Int), bt319.1))))) = some (r1, r2) := H
            have A9 := Aside0.mk A90
            clear A90
            replace H := Option.bind_eq_some_iff.mp H
            obtain ⟨⟨t316, t317, t318⟩, A100, H⟩ := H
            replace H : ((pack_Reader_Err.f t317 t318).bind fun bt319 => (if bt319.1 = 0 then (if t316 = 0 then (some (([] : List Int), 5)) else (if t316 > (IntKind.u64.wrap (x8_1)) then (some (([] : List Int), 5)) else (if (wrap64 ((x7_1.length : Int) - 1)) ≥ 0 then (if 0 ≤ (wrap64 ((x7_1.length : Int) - 1)) then (if (wrap64 ((x7_1.length : Int) - 1)) < (x7_1.length : Int) then (if ((rd_T53 x7_1 (wrap64 ((x7_1.length : Int) - 1))).f0) = t313 then (some (([] : List Int), 5)) else (if x7_1.length < 8796093022208 then (runs_Decode.l0 k1 a1 (x7_1 ++ [(⟨t313, wrap64 (t316)⟩ : S53)]) (wrap64 (x8_1 - (wrap64 (t316)))) bt319.2.1 bt319.2.2) else (none))) else (none)) else (none)) else (if x7_1.length < 8796093022208 then (runs_Decode.l0 k1 a1 (x7_1 ++ [(⟨t313, wrap64 (t316)⟩ : S53)]) (wrap64 (x8_1 - (wrap64 (t316)))) bt319.2.1 bt319.2.2) else (none))))) else (some (([] : List Int), bt319.1)))) = some (r1, r2) := H
            have A10 := Aside0.mk A100
            clear A100
            replace H := Option.bind_eq_some_iff.mp H
            obtain ⟨⟨t319, t320, t321⟩, A110, H⟩ := H
            replace H : (if t319 = 0 then (if t316 = 0 then (some (([] : List Int), 5)) else (if t316 > (IntKind.u64.wrap (x8_1)) then (some (([] : List Int), 5)) else (if (wrap64 ((x7_1.length : Int) - 1)) ≥ 0 then (if 0 ≤ (wrap64 ((x7_1.length : Int) - 1)) then (if (wrap64 ((x7_1.length : Int) - 1)) < (x7_1.length : Int) then (if ((rd_T53 x7_1 (wrap64 ((x7_1.length : Int) - 1))).f0) = t313 then (some (([] : List Int), 5)) else (if x7_1.length < 8796093022208 then (runs_Decode.l0 k1 a1 (x7_1 ++ [(⟨t313, wrap64 (t316)⟩ : S53)]) (wrap64 (x8_1 - (wrap64 (t316)))) t320 t321) else (none))) else (none)) else (none)) else (if x7_1.length < 8796093022208 then (runs_Decode.l0 k1 a1 (x7_1 ++ [(⟨t313, wrap64 (t316)⟩ : S53)]) (wrap64 (x8_1 - (wrap64 (t316)))) t320 t321) else (none))))) else (some (([] : List Int), t319))) = some (r1, r2) := H
            have A11 := Aside0.mk A110
            clear A110
            by_cases c12 : t319 = 0
            · rw [if_pos c12] at H
              have c12b0 : (t319 == 0) = true := beq_iff_eq.mpr c12
              have c12b1 : (t319 != 0) = false := bne_eq_false_iff_eq.mpr c12
              clear c12
              by_cases c13 : t316 = 0
              · rw [if_pos c13] at H
                have c13b0 : (t316 == 0) = true := beq_iff_eq.mpr c13
                have c13b1 : (t316 != 0) = false := bne_eq_false_iff_eq.mpr c13
                clear c13
                simp only [Option.some.injEq, Prod.mk.injEq] at H
                obtain ⟨rfl, rfl⟩ := H
                go_wp2_with (first | ((with_reducible refine gate_callee (f := 83) rfl ?_); refine goesL_ (some 25) rfl rfl Try.func83 (by kernel_rfl) rfl #[.pointer (some ⟨g305, 0, none⟩)] rfl (by (try simp only [List.map_toArray, List.map_cons, List.map_nil]); first | done | rfl | (simp only [List.length_drop, List.length_take]; rfl)) ?_; (with_reducible refine (pack_Reader_Left.calls g305 x306000_1 x306001_1 t306 t307 t308 w _ ?side1 ?side2 A7.out).mono ?_); (case side1 => repeat (first | (with_reducible first | exact HI305.out | apply IsS120.alloc | apply IsS120.drewN | apply IsS120.drew | apply IsS120.set_0 | apply IsS120.set_1) | exact HI305.out)); (case side2 => repeat (first | (with_reducible first | exact HB.out | apply below_alloc | apply pw_below_drewN | apply below_drew1 | refine below_set ?_ (IsS120.ge HI305.out)) | exact HB.out)); rintro e w14 ⟨rfl, hi, hb, hk⟩; refine ⟨_, rfl, ?_⟩; have n0_ := Aside0.mk (Kd.R_mono (Kd.R_keep (IsS120.apart (show IsS120 w _ g305 x306000_1 x306001_1 from by repeat (first | (with_reducible first | exact HI305.out | apply IsS120.alloc | apply IsS120.drewN | apply IsS120.drew | apply IsS120.set_0 | apply IsS120.set_1) | exact HI305.out)) (by (with_reducible repeat (first | apply Kd.R_alloc | apply Kd.R_drewN | apply Kd.R_drew)); exact HO_7.out) (by decide)) hk (fun _ h => h.2)) (fun _ h => h.1)); have n1_ := Aside0.mk (hb); have n2_ := Aside0.mk (hi); clear HO_7; clear HB; clear HI305; have HO_7 := n0_; have HB := n1_; have HI305 := n2_; clear n0_ n1_ n2_; (try clear hb); (try clear hb2); (try clear hk); (try clear hi)) | ((with_reducible refine gate_callee (f := 81) rfl ?_); refine goesL_ (some 28) rfl rfl Try.func81 (by kernel_rfl) rfl #[.pointer (some ⟨g305, 0, none⟩)] rfl (by (try simp only [List.map_toArray, List.map_cons, List.map_nil]); first | done | rfl | (simp only [List.length_drop, List.length_take]; rfl)) ?_; (with_reducible refine (pack_Reader_Num.calls g305 t307 t308 t313 t314 t315 w _ ?side1 ?side2 A9.out).mono ?_); (case side1 => repeat (first | (with_reducible first | exact HI305.out | apply IsS120.alloc | apply IsS120.drewN | apply IsS120.drew | apply IsS120.set_0 | apply IsS120.set_1) | exact HI305.out)); (case side2 => repeat (first | (with_reducible first | exact HB.out | apply below_alloc | apply pw_below_drewN | apply below_drew1 | refine below_set ?_ (IsS120.ge HI305.out)) | exact HB.out)); rintro e w15 ⟨rfl, hi, hb, hk⟩; refine ⟨_, rfl, ?_⟩; have n0_ := Aside0.mk (Kd.R_mono (Kd.R_keep (IsS120.apart (show IsS120 w _ g305 t307 t308 from by repeat (first | (with_reducible first | exact HI305.out | apply IsS120.alloc | apply IsS120.drewN | apply IsS120.drew | apply IsS120.set_0 | apply IsS120.set_1) | exact HI305.out)) (by (with_reducible repeat (first | apply Kd.R_alloc | apply Kd.R_drewN | apply Kd.R_drew)); exact HO_7.out) (by decide)) hk (fun _ h => h.2)) (fun _ h => h.1)); have n1_ := Aside0.mk (hb); have n2_ := Aside0.mk (hi); clear HO_7; clear HB; clear HI305; have HO_7 := n0_; have HB := n1_; have HI305 := n2_; clear n0_ n1_ n2_; (try clear hb); (try clear hb2); (try clear hk); (try clear hi)) | ((with_reducible refine gate_callee (f := 81) rfl ?_); refine goesL_ (some 30) rfl rfl Try.func81 (by kernel_rfl) rfl #[.pointer (some ⟨g305, 0, none⟩)] rfl (by (try simp only [List.map_toArray, List.map_cons, List.map_nil]); first | done | rfl | (simp only [List.length_drop, List.length_take]; rfl)) ?_; (with_reducible refine (pack_Reader_Num.calls g305 t314 t315 t316 t317 t318 w _ ?side1 ?side2 A10.out).mono ?_); (case side1 => repeat (first | (with_reducible first | exact HI305.out | apply IsS120.alloc | apply IsS120.drewN | apply IsS120.drew | apply IsS120.set_0 | apply IsS120.set_1) | exact HI305.out)); (case side2 => repeat (first | (with_reducible first | exact HB.out | apply below_alloc | apply pw_below_drewN | apply below_drew1 | refine below_set ?_ (IsS120.ge HI305.out)) | exact HB.out)); rintro e w16 ⟨rfl, hi, hb, hk⟩; refine ⟨_, rfl, ?_⟩; have n0_ := Aside0.mk (Kd.R_mono (Kd.R_keep (IsS120.apart (show IsS120 w _ g305 t314 t315 from by repeat (first | (with_reducible first | exact HI305.out | apply IsS120.alloc | apply IsS120.drewN | apply IsS120.drew | apply IsS120.set_0 | apply IsS120.set_1) | exact HI305.out)) (by (with_reducible repeat (first | apply Kd.R_alloc | apply Kd.R_drewN | apply Kd.R_drew)); exact HO_7.out) (by decide)) hk (fun _ h => h.2)) (fun _ h => h.1)); have n1_ := Aside0.mk (hb); have n2_ := Aside0.mk (hi); clear HO_7; clear HB; clear HI305; have HO_7 := n0_; have HB := n1_; have HI305 := n2_; clear n0_ n1_ n2_; (try clear hb); (try clear hb2); (try clear hk); (try clear hi)) | ((with_reducible refine gate_callee (f := 82) rfl ?_); refine goesL_ (some 32) rfl rfl Try.func82 (by kernel_rfl) rfl #[.pointer (some ⟨g305, 0, none⟩)] rfl (by (try simp only [List.map_toArray, List.map_cons, List.map_nil]); first | done | rfl | (simp only [List.length_drop, List.length_take]; rfl)) ?_; (with_reducible refine (pack_Reader_Err.calls g305 t317 t318 t319 t320 t321 w _ ?side1 ?side2 A11.out).mono ?_); (case side1 => repeat (first | (with_reducible first | exact HI305.out | apply IsS120.alloc | apply IsS120.drewN | apply IsS120.drew | apply IsS120.set_0 | apply IsS120.set_1) | exact HI305.out)); (case side2 => repeat (first | (with_reducible first | exact HB.out | apply below_alloc | apply pw_below_drewN | apply below_drew1 | refine below_set ?_ (IsS120.ge HI305.out)) | exact HB.out)); rintro e w17 ⟨rfl, hi, hb, hk⟩; refine ⟨_, rfl, ?_⟩; have n0_ := Aside0.mk (Kd.R_mono (Kd.R_keep (IsS120.apart (show IsS120 w _ g305 t317 t318 from by repeat (first | (with_reducible first | exact HI305.out | apply IsS120.alloc | apply IsS120.drewN | apply IsS120.drew | apply IsS120.set_0 | apply IsS120.set_1) | exact HI305.out)) (by (with_reducible repeat (first | apply Kd.R_alloc | apply Kd.R_drewN | apply Kd.R_drew)); exact HO_7.out) (by decide)) hk (fun _ h => h.2)) (fun _ h => h.1)); have n1_ := Aside0.mk (hb); have n2_ := Aside0.mk (hi); clear HO_7; clear HB; clear HI305; have HO_7 := n0_; have HB := n1_; have HI305 := n2_; clear n0_ n1_ n2_; (try clear hb); (try clear hb2); (try clear hk); (try clear hi); obtain ⟨Ao18, co18, eo18⟩ := Kd.R_slice HO_7.out; subst eo18))
                go_ret2
                exact ⟨_, by first | rfl | (simp [errW_none, errW_some] <;> rfl) | (simp [*, errW_none, errW_some] <;> rfl), by first | exact Kd.R_nil _ _ _ _ _ | exact Kd.N_nil _ _ _ _ _ | exact Kd.V_nil _ _ _ _ _ | exact Kd.Q_nil _ _ _ _ _ | exact Kd.S_nil _ _ _ _ _, by repeat (first | (with_reducible first | exact HB.out | apply below_alloc | apply pw_below_drewN | apply below_drew1 | refine below_set ?_ (IsS120.ge HI305.out)) | exact HB.out)⟩
              · rw [if_neg c13] at H
                have c13b0 : (t316 == 0) = false := beq_eq_false_iff_ne.mpr c13
                have c13b1 : (t316 != 0) = true := bne_iff_ne.mpr c13
                by_cases c19 : t316 > (IntKind.u64.wrap (x8_1))
                · rw [if_pos c19] at H
                  have c19b0 : decide ((IntKind.u64.wrap (x8_1)) < t316) = true := decide_eq_true c19
                  clear c19
                  simp only [Option.some.injEq, Prod.mk.injEq] at H
                  obtain ⟨rfl, rfl⟩ := H
                  go_wp2_with (first | ((with_reducible refine gate_callee (f := 83) rfl ?_); refine goesL_ (some 25) rfl rfl Try.func83 (by kernel_rfl) rfl #[.pointer (some ⟨g305, 0, none⟩)] rfl (by (try simp only [List.map_toArray, List.map_cons, List.map_nil]); first | done | rfl | (simp only [List.length_drop, List.length_take]; rfl)) ?_; (with_reducible refine (pack_Reader_Left.calls g305 x306000_1 x306001_1 t306 t307 t308 w _ ?side1 ?side2 A7.out).mono ?_); (case side1 => repeat (first | (with_reducible first | exact HI305.out | apply IsS120.alloc | apply IsS120.drewN | apply IsS120.drew | apply IsS120.set_0 | apply IsS120.set_1) | exact HI305.out)); (case side2 => repeat (first | (with_reducible first | exact HB.out | apply below_alloc | apply pw_below_drewN | apply below_drew1 | refine below_set ?_ (IsS120.ge HI305.out)) | exact HB.out)); rintro e w20 ⟨rfl, hi, hb, hk⟩; refine ⟨_, rfl, ?_⟩; have n0_ := Aside0.mk (Kd.R_mono (Kd.R_keep (IsS120.apart (show IsS120 w _ g305 x306000_1 x306001_1 from by repeat (first | (with_reducible first | exact HI305.out | apply IsS120.alloc | apply IsS120.drewN | apply IsS120.drew | apply IsS120.set_0 | apply IsS120.set_1) | exact HI305.out)) (by (with_reducible repeat (first | apply Kd.R_alloc | apply Kd.R_drewN | apply Kd.R_drew)); exact HO_7.out) (by decide)) hk (fun _ h => h.2)) (fun _ h => h.1)); have n1_ := Aside0.mk (hb); have n2_ := Aside0.mk (hi); clear HO_7; clear HB; clear HI305; have HO_7 := n0_; have HB := n1_; have HI305 := n2_; clear n0_ n1_ n2_; (try clear hb); (try clear hb2); (try clear hk); (try clear hi)) | ((with_reducible refine gate_callee (f := 81) rfl ?_); refine goesL_ (some 28) rfl rfl Try.func81 (by kernel_rfl) rfl #[.pointer (some ⟨g305, 0, none⟩)] rfl (by (try simp only [List.map_toArray, List.map_cons, List.map_nil]); first | done | rfl | (simp only [List.length_drop, List.length_take]; rfl)) ?_; (with_reducible refine (pack_Reader_Num.calls g305 t307 t308 t313 t314 t315 w _ ?side1 ?side2 A9.out).mono ?_); (case side1 => repeat (first | (with_reducible first | exact HI305.out | apply IsS120.alloc | apply IsS120.drewN | apply IsS120.drew | apply IsS120.set_0 | apply IsS120.set_1) | exact HI305.out)); (case side2 => repeat (first | (with_reducible first | exact HB.out | apply below_alloc | apply pw_below_drewN | apply below_drew1 | refine below_set ?_ (IsS120.ge HI305.out)) | exact HB.out)); rintro e w21 ⟨rfl, hi, hb, hk⟩; refine ⟨_, rfl, ?_⟩; have n0_ := Aside0.mk (Kd.R_mono (Kd.R_keep (IsS120.apart (show IsS120 w _ g305 t307 t308 from by repeat (first | (with_reducible first | exact HI305.out | apply IsS120.alloc | apply IsS120.drewN | apply IsS120.drew | apply IsS120.set_0 | apply IsS120.set_1) | exact HI305.out)) (by (with_reducible repeat (first | apply Kd.R_alloc | apply Kd.R_drewN | apply Kd.R_drew)); exact HO_7.out) (by decide)) hk (fun _ h => h.2)) (fun _ h => h.1)); have n1_ := Aside0.mk (hb); have n2_ := Aside0.mk (hi); clear HO_7; clear HB; clear HI305; have HO_7 := n0_; have HB := n1_; have HI305 := n2_; clear n0_ n1_ n2_; (try clear hb); (try clear hb2); (try clear hk); (try clear hi)) | ((with_reducible refine gate_callee (f := 81) rfl ?_); refine goesL_ (some 30) rfl rfl Try.func81 (by kernel_rfl) rfl #[.pointer (some ⟨g305, 0, none⟩)] rfl (by (try simp only [List.map_toArray, List.map_cons, List.map_nil]); first | done | rfl | (simp only [List.length_drop, List.length_take]; rfl)) ?_; (with_reducible refine (pack_Reader_Num.calls g305 t314 t315 t316 t317 t318 w _ ?side1 ?side2 A10.out).mono ?_); (case side1 => repeat (first | (with_reducible first | exact HI305.out | apply IsS120.alloc | apply IsS120.drewN | apply IsS120.drew | apply IsS120.set_0 | apply IsS120.set_1) | exact HI305.out)); (case side2 => repeat (first | (with_reducible first | exact HB.out | apply below_alloc | apply pw_below_drewN | apply below_drew1 | refine below_set ?_ (IsS120.ge HI305.out)) | exact HB.out)); rintro e w22 ⟨rfl, hi, hb, hk⟩; refine ⟨_, rfl, ?_⟩; have n0_ := Aside0.mk (Kd.R_mono (Kd.R_keep (IsS120.apart (show IsS120 w _ g305 t314 t315 from by repeat (first | (with_reducible first | exact HI305.out | apply IsS120.alloc | apply IsS120.drewN | apply IsS120.drew | apply IsS120.set_0 | apply IsS120.set_1) | exact HI305.out)) (by (with_reducible repeat (first | apply Kd.R_alloc | apply Kd.R_drewN | apply Kd.R_drew)); exact HO_7.out) (by decide)) hk (fun _ h => h.2)) (fun _ h => h.1)); have n1_ := Aside0.mk (hb); have n2_ := Aside0.mk (hi); clear HO_7; clear HB; clear HI305; have HO_7 := n0_; have HB := n1_; have HI305 := n2_; clear n0_ n1_ n2_; (try clear hb); (try clear hb2); (try clear hk); (try clear hi)) | ((with_reducible refine gate_callee (f := 82) rfl ?_); refine goesL_ (some 32) rfl rfl Try.func82 (by kernel_rfl) rfl #[.pointer (some ⟨g305, 0, none⟩)] rfl (by (try simp only [List.map_toArray, List.map_cons, List.map_nil]); first | done | rfl | (simp only [List.length_drop, List.length_take]; rfl)) ?_; (with_reducible refine (pack_Reader_Err.calls g305 t317 t318 t319 t320 t321 w _ ?side1 ?side2 A11.out).mono ?_); (case side1 => repeat (first | (with_reducible first | exact HI305.out | apply IsS120.alloc | apply IsS120.drewN | apply IsS120.drew | apply IsS120.set_0 | apply IsS120.set_1) | exact HI305.out)); (case side2 => repeat (first | (with_reducible first | exact HB.out | apply below_alloc | apply pw_below_drewN | apply below_drew1 | refine below_set ?_ (IsS120.ge HI305.out)) | exact HB.out)); rintro e w23 ⟨rfl, hi, hb, hk⟩; refine ⟨_, rfl, ?_⟩; have n0_ := Aside0.mk (Kd.R_mono (Kd.R_keep (IsS120.apart (show IsS120 w _ g305 t317 t318 from by repeat (first | (with_reducible first | exact HI305.out | apply IsS120.alloc | apply IsS120.drewN | apply IsS120.drew | apply IsS120.set_0 | apply IsS120.set_1) | exact HI305.out)) (by (with_reducible repeat (first | apply Kd.R_alloc | apply Kd.R_drewN | apply Kd.R_drew)); exact HO_7.out) (by decide)) hk (fun _ h => h.2)) (fun _ h => h.1)); have n1_ := Aside0.mk (hb); have n2_ := Aside0.mk (hi); clear HO_7; clear HB; clear HI305; have HO_7 := n0_; have HB := n1_; have HI305 := n2_; clear n0_ n1_ n2_; (try clear hb); (try clear hb2); (try clear hk); (try clear hi); obtain ⟨Ao24, co24, eo24⟩ := Kd.R_slice HO_7.out; subst eo24))
                  go_ret2
                  exact ⟨_, by first | rfl | (simp [errW_none, errW_some] <;> rfl) | (simp [*, errW_none, errW_some] <;> rfl), by first | exact Kd.R_nil _ _ _ _ _ | exact Kd.N_nil _ _ _ _ _ | exact Kd.V_nil _ _ _ _ _ | exact Kd.Q_nil _ _ _ _ _ | exact Kd.S_nil _ _ _ _ _, by repeat (first | (with_reducible first | exact HB.out | apply below_alloc | apply pw_below_drewN | apply below_drew1 | refine below_set ?_ (IsS120.ge HI305.out)) | exact HB.out)⟩
                · rw [if_neg c19] at H
                  have c19b0 : decide ((IntKind.u64.wrap (x8_1)) < t316) = false := decide_eq_false c19
                  clear c19
                  by_cases c25 : (wrap64 ((x7_1.length : Int) - 1)) ≥ 0
                  · rw [if_pos c25] at H
                    have c25b0 : decide (0 ≤ (wrap64 ((x7_1.length : Int) - 1))) = true := decide_eq_true c25
                    clear c25
                    obtain ⟨ji26, hji26⟩ : ∃ j_ : Int, (wrap64 ((x7_1.length : Int) - 1)) = j_ := ⟨_, rfl⟩
                    replace H : (if 0 ≤ (ji26) then (if (ji26) < (x7_1.length : Int) then (if ((rd_T53 x7_1 (ji26)).f0) = t313 then (some (([] : List Int), 5)) else (if x7_1.length < 8796093022208 then (runs_Decode.l0 k1 a1 (x7_1 ++ [(⟨t313, wrap64 (t316)⟩ : S53)]) (wrap64 (x8_1 - (wrap64 (t316)))) t320 t321) else (none))) else (none)) else (none)) = some (r1, r2) := by first | (rw [hji26] at H; exact H) | (simp only [hji26] at H ⊢; exact H)
                    (try rw [hji26] at c25b0)
                    (try rw [hji26] at A7)
                    (try rw [hji26] at A9)
                    (try rw [hji26] at A10)
                    (try rw [hji26] at A11)
                    have hji26w : (IntKind.i64.wrap ((x7_1.length : Int) - 1)) = ji26 := (i64_w _).trans hji26
                    by_cases c27 : 0 ≤ (ji26)
                    · rw [if_pos c27] at H
                      have c27b0 : decide (0 ≤ (ji26)) = true := decide_eq_true c27
                      clear c27
                      by_cases c28 : (ji26) < (x7_1.length : Int)
                      · rw [if_pos c28] at H
                        have c28b0 : decide ((ji26) < (x7_1.length : Int)) = true := decide_eq_true c28
                        clear c28
                        by_cases c29 : ((rd_T53 x7_1 (ji26)).f0) = t313
                        · rw [if_pos c29] at H
                          have c29b0 : (((rd_T53 x7_1 (ji26)).f0) == t313) = true := beq_iff_eq.mpr c29
                          have c29b1 : (((rd_T53 x7_1 (ji26)).f0) != t313) = false := bne_eq_false_iff_eq.mpr c29
                          clear c29
                          simp only [Option.some.injEq, Prod.mk.injEq] at H
                          obtain ⟨rfl, rfl⟩ := H
                          go_wp2_with (first | ((with_reducible refine gate_callee (f := 83) rfl ?_); refine goesL_ (some 25) rfl rfl Try.func83 (by kernel_rfl) rfl #[.pointer (some ⟨g305, 0, none⟩)] rfl (by (try simp only [List.map_toArray, List.map_cons, List.map_nil]); first | done | rfl | (simp only [List.length_drop, List.length_take]; rfl)) ?_; (with_reducible refine (pack_Reader_Left.calls g305 x306000_1 x306001_1 t306 t307 t308 w _ ?side1 ?side2 A7.out).mono ?_); (case side1 => repeat (first | (with_reducible first | exact HI305.out | apply IsS120.alloc | apply IsS120.drewN | apply IsS120.drew | apply IsS120.set_0 | apply IsS120.set_1) | exact HI305.out)); (case side2 => repeat (first | (with_reducible first | exact HB.out | apply below_alloc | apply pw_below_drewN | apply below_drew1 | refine below_set ?_ (IsS120.ge HI305.out)) | exact HB.out)); rintro e w30 ⟨rfl, hi, hb, hk⟩; refine ⟨_, rfl, ?_⟩; have n0_ := Aside0.mk (Kd.R_mono (Kd.R_keep (IsS120.apart (show IsS120 w _ g305 x306000_1 x306001_1 from by repeat (first | (with_reducible first | exact HI305.out | apply IsS120.alloc | apply IsS120.drewN | apply IsS120.drew | apply IsS120.set_0 | apply IsS120.set_1) | exact HI305.out)) (by (with_reducible repeat (first | apply Kd.R_alloc | apply Kd.R_drewN | apply Kd.R_drew)); exact HO_7.out) (by decide)) hk (fun _ h => h.2)) (fun _ h => h.1)); have n1_ := Aside0.mk (hb); have n2_ := Aside0.mk (hi); clear HO_7; clear HB; clear HI305; have HO_7 := n0_; have HB := n1_; have HI305 := n2_; clear n0_ n1_ n2_; (try clear hb); (try clear hb2); (try clear hk); (try clear hi)) | ((with_reducible refine gate_callee (f := 81) rfl ?_); refine goesL_ (some 28) rfl rfl Try.func81 (by kernel_rfl) rfl #[.pointer (some ⟨g305, 0, none⟩)] rfl (by (try simp only [List.map_toArray, List.map_cons, List.map_nil]); first | done | rfl | (simp only [List.length_drop, List.length_take]; rfl)) ?_; (with_reducible refine (pack_Reader_Num.calls g305 t307 t308 t313 t314 t315 w _ ?side1 ?side2 A9.out).mono ?_); (case side1 => repeat (first | (with_reducible first | exact HI305.out | apply IsS120.alloc | apply IsS120.drewN | apply IsS120.drew | apply IsS120.set_0 | apply IsS120.set_1) | exact HI305.out)); (case side2 => repeat (first | (with_reducible first | exact HB.out | apply below_alloc | apply pw_below_drewN | apply below_drew1 | refine below_set ?_ (IsS120.ge HI305.out)) | exact HB.out)); rintro e w31 ⟨rfl, hi, hb, hk⟩; refine ⟨_, rfl, ?_⟩; have n0_ := Aside0.mk (Kd.R_mono (Kd.R_keep (IsS120.apart (show IsS120 w _ g305 t307 t308 from by repeat (first | (with_reducible first | exact HI305.out | apply IsS120.alloc | apply IsS120.drewN | apply IsS120.drew | apply IsS120.set_0 | apply IsS120.set_1) | exact HI305.out)) (by (with_reducible repeat (first | apply Kd.R_alloc | apply Kd.R_drewN | apply Kd.R_drew)); exact HO_7.out) (by decide)) hk (fun _ h => h.2)) (fun _ h => h.1)); have n1_ := Aside0.mk (hb); have n2_ := Aside0.mk (hi); clear HO_7; clear HB; clear HI305; have HO_7 := n0_; have HB := n1_; have HI305 := n2_; clear n0_ n1_ n2_; (try clear hb); (try clear hb2); (try clear hk); (try clear hi)) | ((with_reducible refine gate_callee (f := 81) rfl ?_); refine goesL_ (some 30) rfl rfl Try.func81 (by kernel_rfl) rfl #[.pointer (some ⟨g305, 0, none⟩)] rfl (by (try simp only [List.map_toArray, List.map_cons, List.map_nil]); first | done | rfl | (simp only [List.length_drop, List.length_take]; rfl)) ?_; (with_reducible refine (pack_Reader_Num.calls g305 t314 t315 t316 t317 t318 w _ ?side1 ?side2 A10.out).mono ?_); (case side1 => repeat (first | (with_reducible first | exact HI305.out | apply IsS120.alloc | apply IsS120.drewN | apply IsS120.drew | apply IsS120.set_0 | apply IsS120.set_1) | exact HI305.out)); (case side2 => repeat (first | (with_reducible first | exact HB.out | apply below_alloc | apply pw_below_drewN | apply below_drew1 | refine below_set ?_ (IsS120.ge HI305.out)) | exact HB.out)); rintro e w32 ⟨rfl, hi, hb, hk⟩; refine ⟨_, rfl, ?_⟩; have n0_ := Aside0.mk (Kd.R_mono (Kd.R_keep (IsS120.apart (show IsS120 w _ g305 t314 t315 from by repeat (first | (with_reducible first | exact HI305.out | apply IsS120.alloc | apply IsS120.drewN | apply IsS120.drew | apply IsS120.set_0 | apply IsS120.set_1) | exact HI305.out)) (by (with_reducible repeat (first | apply Kd.R_alloc | apply Kd.R_drewN | apply Kd.R_drew)); exact HO_7.out) (by decide)) hk (fun _ h => h.2)) (fun _ h => h.1)); have n1_ := Aside0.mk (hb); have n2_ := Aside0.mk (hi); clear HO_7; clear HB; clear HI305; have HO_7 := n0_; have HB := n1_; have HI305 := n2_; clear n0_ n1_ n2_; (try clear hb); (try clear hb2); (try clear hk); (try clear hi)) | ((with_reducible refine gate_callee (f := 82) rfl ?_); refine goesL_ (some 32) rfl rfl Try.func82 (by kernel_rfl) rfl #[.pointer (some ⟨g305, 0, none⟩)] rfl (by (try simp only [List.map_toArray, List.map_cons, List.map_nil]); first | done | rfl | (simp only [List.length_drop, List.length_take]; rfl)) ?_; (with_reducible refine (pack_Reader_Err.calls g305 t317 t318 t319 t320 t321 w _ ?side1 ?side2 A11.out).mono ?_); (case side1 => repeat (first | (with_reducible first | exact HI305.out | apply IsS120.alloc | apply IsS120.drewN | apply IsS120.drew | apply IsS120.set_0 | apply IsS120.set_1) | exact HI305.out)); (case side2 => repeat (first | (with_reducible first | exact HB.out | apply below_alloc | apply pw_below_drewN | apply below_drew1 | refine below_set ?_ (IsS120.ge HI305.out)) | exact HB.out)); rintro e w33 ⟨rfl, hi, hb, hk⟩; refine ⟨_, rfl, ?_⟩; have n0_ := Aside0.mk (Kd.R_mono (Kd.R_keep (IsS120.apart (show IsS120 w _ g305 t317 t318 from by repeat (first | (with_reducible first | exact HI305.out | apply IsS120.alloc | apply IsS120.drewN | apply IsS120.drew | apply IsS120.set_0 | apply IsS120.set_1) | exact HI305.out)) (by (with_reducible repeat (first | apply Kd.R_alloc | apply Kd.R_drewN | apply Kd.R_drew)); exact HO_7.out) (by decide)) hk (fun _ h => h.2)) (fun _ h => h.1)); have n1_ := Aside0.mk (hb); have n2_ := Aside0.mk (hi); clear HO_7; clear HB; clear HI305; have HO_7 := n0_; have HB := n1_; have HI305 := n2_; clear n0_ n1_ n2_; (try clear hb); (try clear hb2); (try clear hk); (try clear hi); obtain ⟨Ao34, co34, eo34⟩ := Kd.R_slice HO_7.out; subst eo34; have p322 : 0 ≤ ((ji26) : Int) := of_decide_eq_true (by first | (with_reducible assumption) | assumption); have q322 : (ji26) < (x7_1.length : Int) := of_decide_eq_true (by first | (with_reducible assumption) | assumption); obtain ⟨ad322, e322, hx322_0, hx322_1⟩ := at_T53 (Kd.R_reads' HO_7.out).2.2 (ji26) p322 q322; cases e322; replace p322 := eq_true p322; replace q322 := eq_true q322))
                          go_ret2
                          (try simp only [hji26])
                          exact ⟨_, by first | rfl | (simp [errW_none, errW_some] <;> rfl) | (simp only [← hji26]; first | rfl | (simp [errW_none, errW_some] <;> rfl)) | (simp [*, errW_none, errW_some] <;> rfl), by first | exact Kd.R_nil _ _ _ _ _ | exact Kd.N_nil _ _ _ _ _ | exact Kd.V_nil _ _ _ _ _ | exact Kd.Q_nil _ _ _ _ _ | exact Kd.S_nil _ _ _ _ _, by repeat (first | (with_reducible first | exact HB.out | apply below_alloc | apply pw_below_drewN | apply below_drew1 | refine below_set ?_ (IsS120.ge HI305.out)) | exact HB.out)⟩
                        · rw [if_neg c29] at H
                          have c29b0 : (((rd_T53 x7_1 (ji26)).f0) == t313) = false := beq_eq_false_iff_ne.mpr c29
                          have c29b1 : (((rd_T53 x7_1 (ji26)).f0) != t313) = true := bne_iff_ne.mpr c29
                          by_cases c35 : x7_1.length < 8796093022208
                          · rw [if_pos c35] at H
                            have LMc35 := Aside0.mk c35
                            clear c35
                            obtain ⟨y323, hy323⟩ : ∃ y_ : List (S53), y_ = (x7_1 ++ [(⟨t313, wrap64 (t316)⟩ : S53)]) := ⟨_, rfl⟩
                            replace H : (runs_Decode.l0 k1 a1 y323 (wrap64 (x8_1 - (wrap64 (t316)))) t320 t321) = some (r1, r2) := by first | (rw [hy323]; with_reducible exact H) | (have H2_ := (Option.bind_some _ _).symm.trans H; rw [hy323]; with_reducible exact H2_) | (have H2_ := (Option.bind_some _ _).symm.trans H; with_reducible exact H2_) | with_reducible exact H | (rw [hy323]; exact H) | exact H
                            have Ny323 := Aside0.mk hy323
                            clear hy323
                            have H' := Aside0.mk H
                            clear H
                            go_wp2_with (first | ((with_reducible refine gate_callee (f := 83) rfl ?_); refine goesL_ (some 25) rfl rfl Try.func83 (by kernel_rfl) rfl #[.pointer (some ⟨g305, 0, none⟩)] rfl (by (try simp only [List.map_toArray, List.map_cons, List.map_nil]); first | done | rfl | (simp only [List.length_drop, List.length_take]; rfl)) ?_; (with_reducible refine (pack_Reader_Left.calls g305 x306000_1 x306001_1 t306 t307 t308 w _ ?side1 ?side2 A7.out).mono ?_); (case side1 => repeat (first | (with_reducible first | exact HI305.out | apply IsS120.alloc | apply IsS120.drewN | apply IsS120.drew | apply IsS120.set_0 | apply IsS120.set_1) | exact HI305.out)); (case side2 => repeat (first | (with_reducible first | exact HB.out | apply below_alloc | apply pw_below_drewN | apply below_drew1 | refine below_set ?_ (IsS120.ge HI305.out)) | exact HB.out)); rintro e w36 ⟨rfl, hi, hb, hk⟩; refine ⟨_, rfl, ?_⟩; have n0_ := Aside0.mk (Kd.R_mono (Kd.R_keep (IsS120.apart (show IsS120 w _ g305 x306000_1 x306001_1 from by repeat (first | (with_reducible first | exact HI305.out | apply IsS120.alloc | apply IsS120.drewN | apply IsS120.drew | apply IsS120.set_0 | apply IsS120.set_1) | exact HI305.out)) (by (with_reducible repeat (first | apply Kd.R_alloc | apply Kd.R_drewN | apply Kd.R_drew)); exact HO_7.out) (by decide)) hk (fun _ h => h.2)) (fun _ h => h.1)); have n1_ := Aside0.mk (hb); have n2_ := Aside0.mk (hi); clear HO_7; clear HB; clear HI305; have HO_7 := n0_; have HB := n1_; have HI305 := n2_; clear n0_ n1_ n2_; (try clear hb); (try clear hb2); (try clear hk); (try clear hi)) | ((with_reducible refine gate_callee (f := 81) rfl ?_); refine goesL_ (some 28) rfl rfl Try.func81 (by kernel_rfl) rfl #[.pointer (some ⟨g305, 0, none⟩)] rfl (by (try simp only [List.map_toArray, List.map_cons, List.map_nil]); first | done | rfl | (simp only [List.length_drop, List.length_take]; rfl)) ?_; (with_reducible refine (pack_Reader_Num.calls g305 t307 t308 t313 t314 t315 w _ ?side1 ?side2 A9.out).mono ?_); (case side1 => repeat (first | (with_reducible first | exact HI305.out | apply IsS120.alloc | apply IsS120.drewN | apply IsS120.drew | apply IsS120.set_0 | apply IsS120.set_1) | exact HI305.out)); (case side2 => repeat (first | (with_reducible first | exact HB.out | apply below_alloc | apply pw_below_drewN | apply below_drew1 | refine below_set ?_ (IsS120.ge HI305.out)) | exact HB.out)); rintro e w37 ⟨rfl, hi, hb, hk⟩; refine ⟨_, rfl, ?_⟩; have n0_ := Aside0.mk (Kd.R_mono (Kd.R_keep (IsS120.apart (show IsS120 w _ g305 t307 t308 from by repeat (first | (with_reducible first | exact HI305.out | apply IsS120.alloc | apply IsS120.drewN | apply IsS120.drew | apply IsS120.set_0 | apply IsS120.set_1) | exact HI305.out)) (by (with_reducible repeat (first | apply Kd.R_alloc | apply Kd.R_drewN | apply Kd.R_drew)); exact HO_7.out) (by decide)) hk (fun _ h => h.2)) (fun _ h => h.1)); have n1_ := Aside0.mk (hb); have n2_ := Aside0.mk (hi); clear HO_7; clear HB; clear HI305; have HO_7 := n0_; have HB := n1_; have HI305 := n2_; clear n0_ n1_ n2_; (try clear hb); (try clear hb2); (try clear hk); (try clear hi)) | ((with_reducible refine gate_callee (f := 81) rfl ?_); refine goesL_ (some 30) rfl rfl Try.func81 (by kernel_rfl) rfl #[.pointer (some ⟨g305, 0, none⟩)] rfl (by (try simp only [List.map_toArray, List.map_cons, List.map_nil]); first | done | rfl | (simp only [List.length_drop, List.length_take]; rfl)) ?_; (with_reducible refine (pack_Reader_Num.calls g305 t314 t315 t316 t317 t318 w _ ?side1 ?side2 A10.out).mono ?_); (case side1 => repeat (first | (with_reducible first | exact HI305.out | apply IsS120.alloc | apply IsS120.drewN | apply IsS120.drew | apply IsS120.set_0 | apply IsS120.set_1) | exact HI305.out)); (case side2 => repeat (first | (with_reducible first | exact HB.out | apply below_alloc | apply pw_below_drewN | apply below_drew1 | refine below_set ?_ (IsS120.ge HI305.out)) | exact HB.out)); rintro e w38 ⟨rfl, hi, hb, hk⟩; refine ⟨_, rfl, ?_⟩; have n0_ := Aside0.mk (Kd.R_mono (Kd.R_keep (IsS120.apart (show IsS120 w _ g305 t314 t315 from by repeat (first | (with_reducible first | exact HI305.out | apply IsS120.alloc | apply IsS120.drewN | apply IsS120.drew | apply IsS120.set_0 | apply IsS120.set_1) | exact HI305.out)) (by (with_reducible repeat (first | apply Kd.R_alloc | apply Kd.R_drewN | apply Kd.R_drew)); exact HO_7.out) (by decide)) hk (fun _ h => h.2)) (fun _ h => h.1)); have n1_ := Aside0.mk (hb); have n2_ := Aside0.mk (hi); clear HO_7; clear HB; clear HI305; have HO_7 := n0_; have HB := n1_; have HI305 := n2_; clear n0_ n1_ n2_; (try clear hb); (try clear hb2); (try clear hk); (try clear hi)) | ((with_reducible refine gate_callee (f := 82) rfl ?_); refine goesL_ (some 32) rfl rfl Try.func82 (by kernel_rfl) rfl #[.pointer (some ⟨g305, 0, none⟩)] rfl (by (try simp only [List.map_toArray, List.map_cons, List.map_nil]); first | done | rfl | (simp only [List.length_drop, List.length_take]; rfl)) ?_; (with_reducible refine (pack_Reader_Err.calls g305 t317 t318 t319 t320 t321 w _ ?side1 ?side2 A11.out).mono ?_); (case side1 => repeat (first | (with_reducible first | exact HI305.out | apply IsS120.alloc | apply IsS120.drewN | apply IsS120.drew | apply IsS120.set_0 | apply IsS120.set_1) | exact HI305.out)); (case side2 => repeat (first | (with_reducible first | exact HB.out | apply below_alloc | apply pw_below_drewN | apply below_drew1 | refine below_set ?_ (IsS120.ge HI305.out)) | exact HB.out)); rintro e w39 ⟨rfl, hi, hb, hk⟩; refine ⟨_, rfl, ?_⟩; have n0_ := Aside0.mk (Kd.R_mono (Kd.R_keep (IsS120.apart (show IsS120 w _ g305 t317 t318 from by repeat (first | (with_reducible first | exact HI305.out | apply IsS120.alloc | apply IsS120.drewN | apply IsS120.drew | apply IsS120.set_0 | apply IsS120.set_1) | exact HI305.out)) (by (with_reducible repeat (first | apply Kd.R_alloc | apply Kd.R_drewN | apply Kd.R_drew)); exact HO_7.out) (by decide)) hk (fun _ h => h.2)) (fun _ h => h.1)); have n1_ := Aside0.mk (hb); have n2_ := Aside0.mk (hi); clear HO_7; clear HB; clear HI305; have HO_7 := n0_; have HB := n1_; have HI305 := n2_; clear n0_ n1_ n2_; (try clear hb); (try clear hb2); (try clear hk); (try clear hi); obtain ⟨Ao40, co40, eo40⟩ := Kd.R_slice HO_7.out; subst eo40; have p322 : 0 ≤ ((ji26) : Int) := of_decide_eq_true (by first | (with_reducible assumption) | assumption); have q322 : (ji26) < (x7_1.length : Int) := of_decide_eq_true (by first | (with_reducible assumption) | assumption); obtain ⟨ad322, e322, hx322_0, hx322_1⟩ := at_T53 (Kd.R_reads' HO_7.out).2.2 (ji26) p322 q322; cases e322; replace p322 := eq_true p322; replace q322 := eq_true q322) | ((with_reducible refine gate_builtin (b := .append) (xs := #[.tmp 64, .tmp 69]) rfl ?_); at_builtin; refine Kd.R_append k53 (w0 := w) w.heap.size rfl (.tmp 64) (.tmp 69) 39 53 (.agg #[(.int .u64 0), (.int .i64 0)]) 16 rfl Try.underlying39 info53 rfl (by decide) (by omega) (.slice (some ad322) x7_1.length co40) x7_1 (⟨t313, wrap64 (t316)⟩ : S53) [.int .u64 t313, .int .i64 (wrap64 (t316))] (fun _ => True) (fun _ => False) rfl rfl ?aP (fun _ hk => hk.elim) ?aF ?aO ?aB ?aS ?aL ?_; (case aP => exact k53_mkM _ _ _ (⟨t313, wrap64 (t316)⟩ : S53)); (case aB => exact (by repeat (first | (with_reducible first | exact HB.out | apply below_alloc | apply pw_below_drewN | apply below_drew1 | refine below_set ?_ (IsS120.ge HI305.out)) | exact HB.out))); (case aF => exact (fun _ _ => trivial)); (case aO => exact (by (with_reducible repeat (first | apply Kd.R_alloc | apply Kd.R_drewN | apply Kd.R_drew)); exact HO_7.out)); (case aS => exact (below_size (by repeat (first | (with_reducible first | exact HB.out | apply below_alloc | apply pw_below_drewN | apply below_drew1 | refine below_set ?_ (IsS120.ge HI305.out)) | exact HB.out)))); (case aL => have := LMc35.out; omega); intro v324 w41 ho hb hg hat; rw [← Ny323.out] at ho; have n0_ := Aside0.mk (IsS120.grown (by repeat (first | (with_reducible first | exact HI305.out | apply IsS120.alloc | apply IsS120.drewN | apply IsS120.drew | apply IsS120.set_0 | apply IsS120.set_1) | exact HI305.out)) hg (IsS120.own_ne HI305.out HO_7.out (by decide))); have n1_ := Aside0.mk (hb); have n2_ := Aside0.mk (ho); clear HI305; clear HB; clear HO_7; have HI305 := n0_; have HB := n1_; have HO325 := n2_; clear n0_ n1_ n2_; clear ho hb hg hat))
                            go_roundg k1
                            case measure => have := HK1.out; omega
                            case rel => exact ⟨(y323), (wrap64 (x8_1 - (wrap64 (t316)))), (t320), (t321), (by first | rfl | (simp; done) | (simp [*]; done)), H', ⟨by have := HK1.out; omega⟩, ⟨by (with_reducible repeat (first | apply Kd.R_alloc | apply Kd.R_drewN | apply Kd.R_drew)); exact HO325.out⟩, ⟨by repeat (first | (with_reducible first | exact HI305.out | apply IsS120.alloc | apply IsS120.drewN | apply IsS120.drew | apply IsS120.set_0 | apply IsS120.set_1) | exact HI305.out)⟩, ⟨by repeat (first | (with_reducible first | exact HB.out | apply below_alloc | apply pw_below_drewN | apply below_drew1 | refine below_set ?_ (IsS120.ge HI305.out)) | exact HB.out)⟩⟩
                          · rw [if_neg c35] at H
                            exact absurd H (by simp)
                      · rw [if_neg c28] at H
                        exact absurd H (by simp)
                    · rw [if_neg c27] at H
                      exact absurd H (by simp)
                  · rw [if_neg c25] at H
                    have c25b0 : decide (0 ≤ (wrap64 ((x7_1.length : Int) - 1))) = false := decide_eq_false c25
                    clear c25
                    by_cases c42 : x7_1.length < 8796093022208
                    · rw [if_pos c42] at H
                      have LMc42 := Aside0.mk c42
                      clear c42
                      obtain ⟨y326, hy326⟩ : ∃ y_ : List (S53), y_ = (x7_1 ++ [(⟨t313, wrap64 (t316)⟩ : S53)]) := ⟨_, rfl⟩
                      replace H : (runs_Decode.l0 k1 a1 y326 (wrap64 (x8_1 - (wrap64 (t316)))) t320 t321) = some (r1, r2) := by first | (rw [hy326]; with_reducible exact H) | (have H2_ := (Option.bind_some _ _).symm.trans H; rw [hy326]; with_reducible exact H2_) | (have H2_ := (Option.bind_some _ _).symm.trans H; with_reducible exact H2_) | with_reducible exact H | (rw [hy326]; exact H) | exact H
                      have Ny326 := Aside0.mk hy326
                      clear hy326
                      have H' := Aside0.mk H
                      clear H
                      go_wp2_with (first | ((with_reducible refine gate_callee (f := 83) rfl ?_); refine goesL_ (some 25) rfl rfl Try.func83 (by kernel_rfl) rfl #[.pointer (some ⟨g305, 0, none⟩)] rfl (by (try simp only [List.map_toArray, List.map_cons, List.map_nil]); first | done | rfl | (simp only [List.length_drop, List.length_take]; rfl)) ?_; (with_reducible refine (pack_Reader_Left.calls g305 x306000_1 x306001_1 t306 t307 t308 w _ ?side1 ?side2 A7.out).mono ?_); (case side1 => repeat (first | (with_reducible first | exact HI305.out | apply IsS120.alloc | apply IsS120.drewN | apply IsS120.drew | apply IsS120.set_0 | apply IsS120.set_1) | exact HI305.out)); (case side2 => repeat (first | (with_reducible first | exact HB.out | apply below_alloc | apply pw_below_drewN | apply below_drew1 | refine below_set ?_ (IsS120.ge HI305.out)) | exact HB.out)); rintro e w43 ⟨rfl, hi, hb, hk⟩; refine ⟨_, rfl, ?_⟩; have n0_ := Aside0.mk (Kd.R_mono (Kd.R_keep (IsS120.apart (show IsS120 w _ g305 x306000_1 x306001_1 from by repeat (first | (with_reducible first | exact HI305.out | apply IsS120.alloc | apply IsS120.drewN | apply IsS120.drew | apply IsS120.set_0 | apply IsS120.set_1) | exact HI305.out)) (by (with_reducible repeat (first | apply Kd.R_alloc | apply Kd.R_drewN | apply Kd.R_drew)); exact HO_7.out) (by decide)) hk (fun _ h => h.2)) (fun _ h => h.1)); have n1_ := Aside0.mk (hb); have n2_ := Aside0.mk (hi); clear HO_7; clear HB; clear HI305; have HO_7 := n0_; have HB := n1_; have HI305 := n2_; clear n0_ n1_ n2_; (try clear hb); (try clear hb2); (try clear hk); (try clear hi)) | ((with_reducible refine gate_callee (f := 81) rfl ?_); refine goesL_ (some 28) rfl rfl Try.func81 (by kernel_rfl) rfl #[.pointer (some ⟨g305, 0, none⟩)] rfl (by (try simp only [List.map_toArray, List.map_cons, List.map_nil]); first | done | rfl | (simp only [List.length_drop, List.length_take]; rfl)) ?_; (with_reducible refine (pack_Reader_Num.calls g305 t307 t308 t313 t314 t315 w _ ?side1 ?side2 A9.out).mono ?_); (case side1 => repeat (first | (with_reducible first | exact HI305.out | apply IsS120.alloc | apply IsS120.drewN | apply IsS120.drew | apply IsS120.set_0 | apply IsS120.set_1) | exact HI305.out)); (case side2 => repeat (first | (with_reducible first | exact HB.out | apply below_alloc | apply pw_below_drewN | apply below_drew1 | refine below_set ?_ (IsS120.ge HI305.out)) | exact HB.out)); rintro e w44 ⟨rfl, hi, hb, hk⟩; refine ⟨_, rfl, ?_⟩; have n0_ := Aside0.mk (Kd.R_mono (Kd.R_keep (IsS120.apart (show IsS120 w _ g305 t307 t308 from by repeat (first | (with_reducible first | exact HI305.out | apply IsS120.alloc | apply IsS120.drewN | apply IsS120.drew | apply IsS120.set_0 | apply IsS120.set_1) | exact HI305.out)) (by (with_reducible repeat (first | apply Kd.R_alloc | apply Kd.R_drewN | apply Kd.R_drew)); exact HO_7.out) (by decide)) hk (fun _ h => h.2)) (fun _ h => h.1)); have n1_ := Aside0.mk (hb); have n2_ := Aside0.mk (hi); clear HO_7; clear HB; clear HI305; have HO_7 := n0_; have HB := n1_; have HI305 := n2_; clear n0_ n1_ n2_; (try clear hb); (try clear hb2); (try clear hk); (try clear hi)) | ((with_reducible refine gate_callee (f := 81) rfl ?_); refine goesL_ (some 30) rfl rfl Try.func81 (by kernel_rfl) rfl #[.pointer (some ⟨g305, 0, none⟩)] rfl (by (try simp only [List.map_toArray, List.map_cons, List.map_nil]); first | done | rfl | (simp only [List.length_drop, List.length_take]; rfl)) ?_; (with_reducible refine (pack_Reader_Num.calls g305 t314 t315 t316 t317 t318 w _ ?side1 ?side2 A10.out).mono ?_); (case side1 => repeat (first | (with_reducible first | exact HI305.out | apply IsS120.alloc | apply IsS120.drewN | apply IsS120.drew | apply IsS120.set_0 | apply IsS120.set_1) | exact HI305.out)); (case side2 => repeat (first | (with_reducible first | exact HB.out | apply below_alloc | apply pw_below_drewN | apply below_drew1 | refine below_set ?_ (IsS120.ge HI305.out)) | exact HB.out)); rintro e w45 ⟨rfl, hi, hb, hk⟩; refine ⟨_, rfl, ?_⟩; have n0_ := Aside0.mk (Kd.R_mono (Kd.R_keep (IsS120.apart (show IsS120 w _ g305 t314 t315 from by repeat (first | (with_reducible first | exact HI305.out | apply IsS120.alloc | apply IsS120.drewN | apply IsS120.drew | apply IsS120.set_0 | apply IsS120.set_1) | exact HI305.out)) (by (with_reducible repeat (first | apply Kd.R_alloc | apply Kd.R_drewN | apply Kd.R_drew)); exact HO_7.out) (by decide)) hk (fun _ h => h.2)) (fun _ h => h.1)); have n1_ := Aside0.mk (hb); have n2_ := Aside0.mk (hi); clear HO_7; clear HB; clear HI305; have HO_7 := n0_; have HB := n1_; have HI305 := n2_; clear n0_ n1_ n2_; (try clear hb); (try clear hb2); (try clear hk); (try clear hi)) | ((with_reducible refine gate_callee (f := 82) rfl ?_); refine goesL_ (some 32) rfl rfl Try.func82 (by kernel_rfl) rfl #[.pointer (some ⟨g305, 0, none⟩)] rfl (by (try simp only [List.map_toArray, List.map_cons, List.map_nil]); first | done | rfl | (simp only [List.length_drop, List.length_take]; rfl)) ?_; (with_reducible refine (pack_Reader_Err.calls g305 t317 t318 t319 t320 t321 w _ ?side1 ?side2 A11.out).mono ?_); (case side1 => repeat (first | (with_reducible first | exact HI305.out | apply IsS120.alloc | apply IsS120.drewN | apply IsS120.drew | apply IsS120.set_0 | apply IsS120.set_1) | exact HI305.out)); (case side2 => repeat (first | (with_reducible first | exact HB.out | apply below_alloc | apply pw_below_drewN | apply below_drew1 | refine below_set ?_ (IsS120.ge HI305.out)) | exact HB.out)); rintro e w46 ⟨rfl, hi, hb, hk⟩; refine ⟨_, rfl, ?_⟩; have n0_ := Aside0.mk (Kd.R_mono (Kd.R_keep (IsS120.apart (show IsS120 w _ g305 t317 t318 from by repeat (first | (with_reducible first | exact HI305.out | apply IsS120.alloc | apply IsS120.drewN | apply IsS120.drew | apply IsS120.set_0 | apply IsS120.set_1) | exact HI305.out)) (by (with_reducible repeat (first | apply Kd.R_alloc | apply Kd.R_drewN | apply Kd.R_drew)); exact HO_7.out) (by decide)) hk (fun _ h => h.2)) (fun _ h => h.1)); have n1_ := Aside0.mk (hb); have n2_ := Aside0.mk (hi); clear HO_7; clear HB; clear HI305; have HO_7 := n0_; have HB := n1_; have HI305 := n2_; clear n0_ n1_ n2_; (try clear hb); (try clear hb2); (try clear hk); (try clear hi); obtain ⟨Ao47, co47, eo47⟩ := Kd.R_slice HO_7.out; subst eo47) | ((with_reducible refine gate_builtin (b := .append) (xs := #[.tmp 64, .tmp 69]) rfl ?_); at_builtin; refine Kd.R_append k53 (w0 := w) w.heap.size rfl (.tmp 64) (.tmp 69) 39 53 (.agg #[(.int .u64 0), (.int .i64 0)]) 16 rfl Try.underlying39 info53 rfl (by decide) (by omega) (.slice Ao47 x7_1.length co47) x7_1 (⟨t313, wrap64 (t316)⟩ : S53) [.int .u64 t313, .int .i64 (wrap64 (t316))] (fun _ => True) (fun _ => False) rfl rfl ?aP (fun _ hk => hk.elim) ?aF ?aO ?aB ?aS ?aL ?_; (case aP => exact k53_mkM _ _ _ (⟨t313, wrap64 (t316)⟩ : S53)); (case aB => exact (by repeat (first | (with_reducible first | exact HB.out | apply below_alloc | apply pw_below_drewN | apply below_drew1 | refine below_set ?_ (IsS120.ge HI305.out)) | exact HB.out))); (case aF => exact (fun _ _ => trivial)); (case aO => exact (by (with_reducible repeat (first | apply Kd.R_alloc | apply Kd.R_drewN | apply Kd.R_drew)); exact HO_7.out)); (case aS => exact (below_size (by repeat (first | (with_reducible first | exact HB.out | apply below_alloc | apply pw_below_drewN | apply below_drew1 | refine below_set ?_ (IsS120.ge HI305.out)) | exact HB.out)))); (case aL => have := LMc42.out; omega); intro v327 w48 ho hb hg hat; rw [← Ny326.out] at ho; have n0_ := Aside0.mk (IsS120.grown (by repeat (first | (with_reducible first | exact HI305.out | apply IsS120.alloc | apply IsS120.drewN | apply IsS120.drew | apply IsS120.set_0 | apply IsS120.set_1) | exact HI305.out)) hg (IsS120.own_ne HI305.out HO_7.out (by decide))); have n1_ := Aside0.mk (hb); have n2_ := Aside0.mk (ho); clear HI305; clear HB; clear HO_7; have HI305 := n0_; have HB := n1_; have HO328 := n2_; clear n0_ n1_ n2_; clear ho hb hg hat))
                      go_roundg k1
                      case measure => have := HK1.out; omega
                      case rel => exact ⟨(y326), (wrap64 (x8_1 - (wrap64 (t316)))), (t320), (t321), (by first | rfl | (simp; done) | (simp [*]; done)), H', ⟨by have := HK1.out; omega⟩, ⟨by (with_reducible repeat (first | apply Kd.R_alloc | apply Kd.R_drewN | apply Kd.R_drew)); exact HO328.out⟩, ⟨by repeat (first | (with_reducible first | exact HI305.out | apply IsS120.alloc | apply IsS120.drewN | apply IsS120.drew | apply IsS120.set_0 | apply IsS120.set_1) | exact HI305.out)⟩, ⟨by repeat (first | (with_reducible first | exact HB.out | apply below_alloc | apply pw_below_drewN | apply below_drew1 | refine below_set ?_ (IsS120.ge HI305.out)) | exact HB.out)⟩⟩
                    · rw [if_neg c42] at H
                      exact absurd H (by simp)
            · rw [if_neg c12] at H
              have c12b0 : (t319 == 0) = false := beq_eq_false_iff_ne.mpr c12
              have c12b1 : (t319 != 0) = true := bne_iff_ne.mpr c12
              simp only [Option.some.injEq, Prod.mk.injEq] at H
              obtain ⟨rfl, rfl⟩ := H
              go_wp2_with (first | ((with_reducible refine gate_callee (f := 83) rfl ?_); refine goesL_ (some 25) rfl rfl Try.func83 (by kernel_rfl) rfl #[.pointer (some ⟨g305, 0, none⟩)] rfl (by (try simp only [List.map_toArray, List.map_cons, List.map_nil]); first | done | rfl | (simp only [List.length_drop, List.length_take]; rfl)) ?_; (with_reducible refine (pack_Reader_Left.calls g305 x306000_1 x306001_1 t306 t307 t308 w _ ?side1 ?side2 A7.out).mono ?_); (case side1 => repeat (first | (with_reducible first | exact HI305.out | apply IsS120.alloc | apply IsS120.drewN | apply IsS120.drew | apply IsS120.set_0 | apply IsS120.set_1) | exact HI305.out)); (case side2 => repeat (first | (with_reducible first | exact HB.out | apply below_alloc | apply pw_below_drewN | apply below_drew1 | refine below_set ?_ (IsS120.ge HI305.out)) | exact HB.out)); rintro e w49 ⟨rfl, hi, hb, hk⟩; refine ⟨_, rfl, ?_⟩; have n0_ := Aside0.mk (Kd.R_mono (Kd.R_keep (IsS120.apart (show IsS120 w _ g305 x306000_1 x306001_1 from by repeat (first | (with_reducible first | exact HI305.out | apply IsS120.alloc | apply IsS120.drewN | apply IsS120.drew | apply IsS120.set_0 | apply IsS120.set_1) | exact HI305.out)) (by (with_reducible repeat (first | apply Kd.R_alloc | apply Kd.R_drewN | apply Kd.R_drew)); exact HO_7.out) (by decide)) hk (fun _ h => h.2)) (fun _ h => h.1)); have n1_ := Aside0.mk (hb); have n2_ := Aside0.mk (hi); clear HO_7; clear HB; clear HI305; have HO_7 := n0_; have HB := n1_; have HI305 := n2_; clear n0_ n1_ n2_; (try clear hb); (try clear hb2); (try clear hk); (try clear hi)) | ((with_reducible refine gate_callee (f := 81) rfl ?_); refine goesL_ (some 28) rfl rfl Try.func81 (by kernel_rfl) rfl #[.pointer (some ⟨g305, 0, none⟩)] rfl (by (try simp only [List.map_toArray, List.map_cons, List.map_nil]); first | done | rfl | (simp only [List.length_drop, List.length_take]; rfl)) ?_; (with_reducible refine (pack_Reader_Num.calls g305 t307 t308 t313 t314 t315 w _ ?side1 ?side2 A9.out).mono ?_); (case side1 => repeat (first | (with_reducible first | exact HI305.out | apply IsS120.alloc | apply IsS120.drewN | apply IsS120.drew | apply IsS120.set_0 | apply IsS120.set_1) | exact HI305.out)); (case side2 => repeat (first | (with_reducible first | exact HB.out | apply below_alloc | apply pw_below_drewN | apply below_drew1 | refine below_set ?_ (IsS120.ge HI305.out)) | exact HB.out)); rintro e w50 ⟨rfl, hi, hb, hk⟩; refine ⟨_, rfl, ?_⟩; have n0_ := Aside0.mk (Kd.R_mono (Kd.R_keep (IsS120.apart (show IsS120 w _ g305 t307 t308 from by repeat (first | (with_reducible first | exact HI305.out | apply IsS120.alloc | apply IsS120.drewN | apply IsS120.drew | apply IsS120.set_0 | apply IsS120.set_1) | exact HI305.out)) (by (with_reducible repeat (first | apply Kd.R_alloc | apply Kd.R_drewN | apply Kd.R_drew)); exact HO_7.out) (by decide)) hk (fun _ h => h.2)) (fun _ h => h.1)); have n1_ := Aside0.mk (hb); have n2_ := Aside0.mk (hi); clear HO_7; clear HB; clear HI305; have HO_7 := n0_; have HB := n1_; have HI305 := n2_; clear n0_ n1_ n2_; (try clear hb); (try clear hb2); (try clear hk); (try clear hi)) | ((with_reducible refine gate_callee (f := 81) rfl ?_); refine goesL_ (some 30) rfl rfl Try.func81 (by kernel_rfl) rfl #[.pointer (some ⟨g305, 0, none⟩)] rfl (by (try simp only [List.map_toArray, List.map_cons, List.map_nil]); first | done | rfl | (simp only [List.length_drop, List.length_take]; rfl)) ?_; (with_reducible refine (pack_Reader_Num.calls g305 t314 t315 t316 t317 t318 w _ ?side1 ?side2 A10.out).mono ?_); (case side1 => repeat (first | (with_reducible first | exact HI305.out | apply IsS120.alloc | apply IsS120.drewN | apply IsS120.drew | apply IsS120.set_0 | apply IsS120.set_1) | exact HI305.out)); (case side2 => repeat (first | (with_reducible first | exact HB.out | apply below_alloc | apply pw_below_drewN | apply below_drew1 | refine below_set ?_ (IsS120.ge HI305.out)) | exact HB.out)); rintro e w51 ⟨rfl, hi, hb, hk⟩; refine ⟨_, rfl, ?_⟩; have n0_ := Aside0.mk (Kd.R_mono (Kd.R_keep (IsS120.apart (show IsS120 w _ g305 t314 t315 from by repeat (first | (with_reducible first | exact HI305.out | apply IsS120.alloc | apply IsS120.drewN | apply IsS120.drew | apply IsS120.set_0 | apply IsS120.set_1) | exact HI305.out)) (by (with_reducible repeat (first | apply Kd.R_alloc | apply Kd.R_drewN | apply Kd.R_drew)); exact HO_7.out) (by decide)) hk (fun _ h => h.2)) (fun _ h => h.1)); have n1_ := Aside0.mk (hb); have n2_ := Aside0.mk (hi); clear HO_7; clear HB; clear HI305; have HO_7 := n0_; have HB := n1_; have HI305 := n2_; clear n0_ n1_ n2_; (try clear hb); (try clear hb2); (try clear hk); (try clear hi)) | ((with_reducible refine gate_callee (f := 82) rfl ?_); refine goesL_ (some 32) rfl rfl Try.func82 (by kernel_rfl) rfl #[.pointer (some ⟨g305, 0, none⟩)] rfl (by (try simp only [List.map_toArray, List.map_cons, List.map_nil]); first | done | rfl | (simp only [List.length_drop, List.length_take]; rfl)) ?_; (with_reducible refine (pack_Reader_Err.calls g305 t317 t318 t319 t320 t321 w _ ?side1 ?side2 A11.out).mono ?_); (case side1 => repeat (first | (with_reducible first | exact HI305.out | apply IsS120.alloc | apply IsS120.drewN | apply IsS120.drew | apply IsS120.set_0 | apply IsS120.set_1) | exact HI305.out)); (case side2 => repeat (first | (with_reducible first | exact HB.out | apply below_alloc | apply pw_below_drewN | apply below_drew1 | refine below_set ?_ (IsS120.ge HI305.out)) | exact HB.out)); rintro e w52 ⟨rfl, hi, hb, hk⟩; refine ⟨_, rfl, ?_⟩; have n0_ := Aside0.mk (Kd.R_mono (Kd.R_keep (IsS120.apart (show IsS120 w _ g305 t317 t318 from by repeat (first | (with_reducible first | exact HI305.out | apply IsS120.alloc | apply IsS120.drewN | apply IsS120.drew | apply IsS120.set_0 | apply IsS120.set_1) | exact HI305.out)) (by (with_reducible repeat (first | apply Kd.R_alloc | apply Kd.R_drewN | apply Kd.R_drew)); exact HO_7.out) (by decide)) hk (fun _ h => h.2)) (fun _ h => h.1)); have n1_ := Aside0.mk (hb); have n2_ := Aside0.mk (hi); clear HO_7; clear HB; clear HI305; have HO_7 := n0_; have HB := n1_; have HI305 := n2_; clear n0_ n1_ n2_; (try clear hb); (try clear hb2); (try clear hk); (try clear hi)))
              go_ret2
              exact ⟨_, by first | rfl | (simp [errW_none, errW_some] <;> rfl) | (simp [*, errW_none, errW_some] <;> rfl), by first | exact Kd.R_nil _ _ _ _ _ | exact Kd.N_nil _ _ _ _ _ | exact Kd.V_nil _ _ _ _ _ | exact Kd.Q_nil _ _ _ _ _ | exact Kd.S_nil _ _ _ _ _, by repeat (first | (with_reducible first | exact HB.out | apply below_alloc | apply pw_below_drewN | apply below_drew1 | refine below_set ?_ (IsS120.ge HI305.out)) | exact HB.out)⟩
          · rw [if_neg c8] at H
            have c8b0 : decide (0 < t306) = false := decide_eq_false c8
            clear c8
            by_cases c53 : x8_1 > 0
            · rw [if_pos c53] at H
              have c53b0 : decide (0 < x8_1) = true := decide_eq_true c53
              clear c53
              simp only [Option.some.injEq, Prod.mk.injEq] at H
              obtain ⟨rfl, rfl⟩ := H
              go_wp2_with (first | ((with_reducible refine gate_callee (f := 83) rfl ?_); refine goesL_ (some 25) rfl rfl Try.func83 (by kernel_rfl) rfl #[.pointer (some ⟨g305, 0, none⟩)] rfl (by (try simp only [List.map_toArray, List.map_cons, List.map_nil]); first | done | rfl | (simp only [List.length_drop, List.length_take]; rfl)) ?_; (with_reducible refine (pack_Reader_Left.calls g305 x306000_1 x306001_1 t306 t307 t308 w _ ?side1 ?side2 A7.out).mono ?_); (case side1 => repeat (first | (with_reducible first | exact HI305.out | apply IsS120.alloc | apply IsS120.drewN | apply IsS120.drew | apply IsS120.set_0 | apply IsS120.set_1) | exact HI305.out)); (case side2 => repeat (first | (with_reducible first | exact HB.out | apply below_alloc | apply pw_below_drewN | apply below_drew1 | refine below_set ?_ (IsS120.ge HI305.out)) | exact HB.out)); rintro e w54 ⟨rfl, hi, hb, hk⟩; refine ⟨_, rfl, ?_⟩; have n0_ := Aside0.mk (Kd.R_mono (Kd.R_keep (IsS120.apart (show IsS120 w _ g305 x306000_1 x306001_1 from by repeat (first | (with_reducible first | exact HI305.out | apply IsS120.alloc | apply IsS120.drewN | apply IsS120.drew | apply IsS120.set_0 | apply IsS120.set_1) | exact HI305.out)) (by (with_reducible repeat (first | apply Kd.R_alloc | apply Kd.R_drewN | apply Kd.R_drew)); exact HO_7.out) (by decide)) hk (fun _ h => h.2)) (fun _ h => h.1)); have n1_ := Aside0.mk (hb); have n2_ := Aside0.mk (hi); clear HO_7; clear HB; clear HI305; have HO_7 := n0_; have HB := n1_; have HI305 := n2_; clear n0_ n1_ n2_; (try clear hb); (try clear hb2); (try clear hk); (try clear hi)))
              go_ret2
              exact ⟨_, by first | rfl | (simp [errW_none, errW_some] <;> rfl) | (simp [*, errW_none, errW_some] <;> rfl), by first | exact Kd.R_nil _ _ _ _ _ | exact Kd.N_nil _ _ _ _ _ | exact Kd.V_nil _ _ _ _ _ | exact Kd.Q_nil _ _ _ _ _ | exact Kd.S_nil _ _ _ _ _, by repeat (first | (with_reducible first | exact HB.out | apply below_alloc | apply pw_below_drewN | apply below_drew1 | refine below_set ?_ (IsS120.ge HI305.out)) | exact HB.out)⟩
            · rw [if_neg c53] at H
              have c53b0 : decide (0 < x8_1) = false := decide_eq_false c53
              clear c53
              replace H := Option.bind_eq_some_iff.mp H
              obtain ⟨⟨t309, t310⟩, A550, H⟩ := H
              replace H : (some (t309, 0)) = some (r1, r2) := H
              have A55 := Aside0.mk A550
              clear A550
              simp only [Option.some.injEq, Prod.mk.injEq] at H
              obtain ⟨rfl, rfl⟩ := H
              go_wp2_with (first | ((with_reducible refine gate_callee (f := 83) rfl ?_); refine goesL_ (some 25) rfl rfl Try.func83 (by kernel_rfl) rfl #[.pointer (some ⟨g305, 0, none⟩)] rfl (by (try simp only [List.map_toArray, List.map_cons, List.map_nil]); first | done | rfl | (simp only [List.length_drop, List.length_take]; rfl)) ?_; (with_reducible refine (pack_Reader_Left.calls g305 x306000_1 x306001_1 t306 t307 t308 w _ ?side1 ?side2 A7.out).mono ?_); (case side1 => repeat (first | (with_reducible first | exact HI305.out | apply IsS120.alloc | apply IsS120.drewN | apply IsS120.drew | apply IsS120.set_0 | apply IsS120.set_1) | exact HI305.out)); (case side2 => repeat (first | (with_reducible first | exact HB.out | apply below_alloc | apply pw_below_drewN | apply below_drew1 | refine below_set ?_ (IsS120.ge HI305.out)) | exact HB.out)); rintro e w56 ⟨rfl, hi, hb, hk⟩; refine ⟨_, rfl, ?_⟩; have n0_ := Aside0.mk (Kd.R_mono (Kd.R_keep (IsS120.apart (show IsS120 w _ g305 x306000_1 x306001_1 from by repeat (first | (with_reducible first | exact HI305.out | apply IsS120.alloc | apply IsS120.drewN | apply IsS120.drew | apply IsS120.set_0 | apply IsS120.set_1) | exact HI305.out)) (by (with_reducible repeat (first | apply Kd.R_alloc | apply Kd.R_drewN | apply Kd.R_drew)); exact HO_7.out) (by decide)) hk (fun _ h => h.2)) (fun _ h => h.1)); have n1_ := Aside0.mk (hb); have n2_ := Aside0.mk (hi); clear HO_7; clear HB; clear HI305; have HO_7 := n0_; have HB := n1_; have HI305 := n2_; clear n0_ n1_ n2_; (try clear hb); (try clear hb2); (try clear hk); (try clear hi); obtain ⟨Ao57, co57, eo57⟩ := Kd.R_slice HO_7.out; subst eo57) | ((with_reducible refine gate_callee (f := 39) rfl ?_); refine goesL_ (some 76) rfl rfl Try.func39 (by kernel_rfl) rfl #[.slice Ao57 x7_1.length co57, .int .i64 a1] rfl (by (try simp only [List.map_toArray, List.map_cons, List.map_nil]); first | done | rfl | (simp only [List.length_drop, List.length_take]; rfl)) ?_; (with_reducible refine (runs_Spread.calls k1 _ _ x7_1 a1 t309 t310 _ ?side1 ?side2 A55.out).mono ?_); (case side1 => repeat (first | exact (Kd.R_reads' HO_7.out).2.2 | (with_reducible refine Kd.C_alloc ?_ _) | (with_reducible refine Kd.C_drewN ?_ _) | (with_reducible refine Kd.C_drew ?_))); (case side2 => exact (Kd.R_reads' HO_7.out).2.1); rintro e w58 ⟨v311, rfl, ho0, hb⟩; refine ⟨_, rfl, ?_⟩; have n0_ := Aside0.mk (Kd.R_below (by (with_reducible repeat (first | apply Kd.R_alloc | apply Kd.R_drewN | apply Kd.R_drew)); exact HO_7.out) hb); have n1_ := Aside0.mk (Kd.R_lower ho0 (below_size (by repeat (first | (with_reducible first | exact HB.out | apply below_alloc | apply pw_below_drewN | apply below_drew1 | refine below_set ?_ (IsS120.ge HI305.out)) | exact HB.out)))); have n2_ := Aside0.mk (IsS120.below (by repeat (first | (with_reducible first | exact HI305.out | apply IsS120.alloc | apply IsS120.drewN | apply IsS120.drew | apply IsS120.set_0 | apply IsS120.set_1) | exact HI305.out)) hb); have n3_ := Aside0.mk (below_step (by repeat (first | (with_reducible first | exact HB.out | apply below_alloc | apply pw_below_drewN | apply below_drew1 | refine below_set ?_ (IsS120.ge HI305.out)) | exact HB.out)) hb); clear HO_7; clear HI305; clear HB; have HO_7 := n0_; have HO312 := n1_; have HI305 := n2_; have HB := n3_; clear n0_ n1_ n2_ n3_; (try clear hb); (try clear hb2); (try clear hk); (try clear hi); (try clear ho0)))
              go_ret2
              exact ⟨_, by first | rfl | (simp [errW_none, errW_some] <;> rfl) | (simp [*, errW_none, errW_some] <;> rfl), by (with_reducible repeat (first | apply Kd.R_alloc | apply Kd.R_drewN | apply Kd.R_drew)); exact HO312.out, by repeat (first | (with_reducible first | exact HB.out | apply below_alloc | apply pw_below_drewN | apply below_drew1 | refine below_set ?_ (IsS120.ge HI305.out)) | exact HB.out)⟩
end Go.Proofs.Ytbgjoiccehiglaa.Print
end
namespace Go.Proofs.Ytbgjoiccehiglaa.Print
end Go.Proofs.Ytbgjoiccehiglaa.Print
namespace Go.Proofs.Ytbgjoiccehiglaa.Print
end Go.Proofs.Ytbgjoiccehiglaa.Print
section
namespace Go.Proofs.Ytbgjoiccehiglaa.LibW
open Go.RowKit Go.Proofs.Ytbgjoiccehiglaa.Print Go.Proofs.YtbgjoiccehiglaaW.PrintWords Go.Proofs.YtbgjoiccehiglaaW.PrintLast Go.Proofs.YtbgjoiccehiglaaW.PrintMore Go.Proofs.Ytbgjoiccehiglaa.LibU Go.Proofs.Ytbgjoiccehiglaa.LibV Go.Proofs.Ytbgjoiccehiglaa.LibC Go.Proofs.Ytbgjoiccehiglaa.LibE Go.Proofs.Ytbgjoiccehiglaa.LibG
theorem rd_at (l : List Int) (i : Nat) (h : i < l.length) : rd l (i : Int) = l[i] := by simp [rd, List.getD_eq_getElem?_getD, h]
noncomputable def put (x : Int) : ByteArray := strOfNums (putL 9 x)
end Go.Proofs.Ytbgjoiccehiglaa.LibW
end
namespace Go.Proofs.Ytbgjoiccehiglaa.Print
end Go.Proofs.Ytbgjoiccehiglaa.Print
namespace Go.Proofs.Ytbgjoiccehiglaa.LibX
end Go.Proofs.Ytbgjoiccehiglaa.LibX
namespace Go.Proofs.Ytbgjoiccehiglaa.LibY
end Go.Proofs.Ytbgjoiccehiglaa.LibY
section
namespace Go.Proofs.Ytbgjoiccehiglaa.Print
open Go.RowKit Go.Proofs.YtbgjoiccehiglaaW.PrintWords Go.Proofs.YtbgjoiccehiglaaW.PrintLast Go.Proofs.YtbgjoiccehiglaaW.PrintMore
attribute [local go_sem] max2_int min2_int max_two min_two max_three min_three max_four min_four
set_option linter.unusedVariables false
set_option linter.unusedSimpArgs false
def bonsairef04_Few.l0 : Nat → List ByteArray → Int → Int → Option (Bool)
  | 0, _, _, _ => none
  | k + 1, x0, x2, x7 => if x7 < (x0.length : Int) then (if 0 ≤ x7 then (if ((rdOf ByteArray.empty x0 x7).size : Int) > x2 then (some false) else (bonsairef04_Few.l0 k x0 x2 (wrap64 (x7 + 1)))) else (none)) else (some true)
def bonsairef04_Few.f (k : Nat) (l0 : List ByteArray) (a1 : Int) (a2 : Int) : Option (Bool) := if (l0.length : Int) > a1 then (some false) else (bonsairef04_Few.l0 k l0 a2 0)
set_option maxHeartbeats 8000000 in
set_option maxRecDepth 100000 in
theorem bonsairef04_Few.calls (k : Nat) (A0 : Option Addr) (c0 : Nat) (l0 : List ByteArray) (a1 : Int) (a2 : Int) (r : Bool) (w : World) (hr0 : Kd.C Kd.string w A0 l0.length l0) (hc0 : l0.length ≤ c0) (h : bonsairef04_Few.f k l0 a1 a2 = some r) :
    Calls Try.prog 37 #[.slice A0 l0.length c0, .int .i64 a1, .int .i64 a2] w fun e w' => e = .returned (.bool r) ∧ Drawn0 w w' := by
  have HR0 := Aside0.mk hr0
  have HC0 := Aside0.mk hc0
  clear hr0 hc0
  have H : (if (l0.length : Int) > a1 then (some false) else (bonsairef04_Few.l0 k l0 a2 0)) = some r := h
  clear h
  by_cases c4 : (l0.length : Int) > a1
  · rw [if_pos c4] at H
    have c4b0 : decide (a1 < (l0.length : Int)) = true := decide_eq_true c4
    clear c4
    obtain rfl := Option.some.inj H
    go_enter Try.func37, Try.ntmps37
    go_wp2
    go_ret
    exact ⟨by first | rfl | (simp; done) | (simp [*]; done), by repeat (first | exact Drawn0.refl _ | apply Drawn0.step)⟩
  · rw [if_neg c4] at H
    have c4b0 : decide (a1 < (l0.length : Int)) = false := decide_eq_false c4
    clear c4
    have H' := Aside0.mk H
    clear H
    go_enter Try.func37, Try.ntmps37
    go_wp2
    go_loopg [7] k (fun kq v7 w' => ∃ (x7_1 : Int), v7 = .int .i64 x7_1 ∧ Aside0 (bonsairef04_Few.l0 kq l0 a2 x7_1 = some r) ∧ Aside0 (kq ≤ k) ∧ Drawn0 w w')
    case atStart => exact ⟨(0), (by first | rfl | (simp; done) | (simp [*]; done)), H', ⟨Nat.le_refl _⟩, by repeat (first | exact Drawn0.refl _ | apply Drawn0.step)⟩
    case round =>
      clear H'
      try clear p2
      try clear c3
      try clear c4
      try clear c4b0
      obtain ⟨x7_1, rfl, HA, HK1, ⟨m1, rfl⟩⟩ := hrel
      cases gk with
      | zero => exact absurd HA.out (by simp [bonsairef04_Few.l0])
      | succ k1 =>
        have H := HA.out
        clear HA
        simp only [bonsairef04_Few.l0] at H
        by_cases c5 : x7_1 < (l0.length : Int)
        · rw [if_pos c5] at H
          have c5b0 : decide (x7_1 < (l0.length : Int)) = true := decide_eq_true c5
          clear c5
          by_cases c6 : 0 ≤ x7_1
          · rw [if_pos c6] at H
            have c6b0 : decide (0 ≤ x7_1) = true := decide_eq_true c6
            clear c6
            by_cases c7 : ((rdOf ByteArray.empty l0 x7_1).size : Int) > a2
            · rw [if_pos c7] at H
              have c7b0 : decide (a2 < ((rdOf ByteArray.empty l0 x7_1).size : Int)) = true := decide_eq_true c7
              clear c7
              obtain rfl := Option.some.inj H
              have p231 : 0 ≤ (x7_1 : Int) := of_decide_eq_true (by first | (with_reducible assumption) | assumption)
              have q231 : x7_1 < (l0.length : Int) := of_decide_eq_true (by first | (with_reducible assumption) | assumption)
              obtain ⟨ad231, e231, hx231_0⟩ := Kd.at_string HR0.out x7_1 p231 q231
              cases e231
              replace p231 := eq_true p231
              replace q231 := eq_true q231
              go_wp2
              go_ret
              exact ⟨by first | rfl | (simp; done) | (simp [*]; done), by repeat (first | exact Drawn0.refl _ | apply Drawn0.step)⟩
            · rw [if_neg c7] at H
              have c7b0 : decide (a2 < ((rdOf ByteArray.empty l0 x7_1).size : Int)) = false := decide_eq_false c7
              clear c7
              have H' := Aside0.mk H
              clear H
              have p231 : 0 ≤ (x7_1 : Int) := of_decide_eq_true (by first | (with_reducible assumption) | assumption)
              have q231 : x7_1 < (l0.length : Int) := of_decide_eq_true (by first | (with_reducible assumption) | assumption)
              obtain ⟨ad231, e231, hx231_0⟩ := Kd.at_string HR0.out x7_1 p231 q231
              cases e231
              replace p231 := eq_true p231
              replace q231 := eq_true q231
              go_wp2
              go_roundg k1
              case measure => have := HK1.out; omega
              case rel => exact ⟨(wrap64 (x7_1 + 1)), (by first | rfl | (simp; done) | (simp [*]; done)), H', ⟨by have := HK1.out; omega⟩, by repeat (first | exact Drawn0.refl _ | apply Drawn0.step)⟩
          · rw [if_neg c6] at H
            exact absurd H (by simp)
        · rw [if_neg c5] at H
          have c5b0 : decide (x7_1 < (l0.length : Int)) = false := decide_eq_false c5
          clear c5
          obtain rfl := Option.some.inj H
          go_wp2
          go_ret
          exact ⟨by first | rfl | (simp; done) | (simp [*]; done), by repeat (first | exact Drawn0.refl _ | apply Drawn0.step)⟩
end Go.Proofs.Ytbgjoiccehiglaa.Print
end
namespace Go.Proofs.Ytbgjoiccehiglaa.Print
end Go.Proofs.Ytbgjoiccehiglaa.Print
section
namespace Go.Proofs.Ytbgjoiccehiglaa.Pure
open Go.RowKit Go.Proofs.Ytbgjoiccehiglaa.Print Go.Proofs.YtbgjoiccehiglaaW.PrintWords Go.Proofs.YtbgjoiccehiglaaW.PrintLast Go.Proofs.YtbgjoiccehiglaaW.PrintMore Go.Proofs.Ytbgjoiccehiglaa.LibA Go.Proofs.Ytbgjoiccehiglaa.LibB Go.Proofs.Ytbgjoiccehiglaa.LibC Go.Proofs.Ytbgjoiccehiglaa.LibE Go.Proofs.Ytbgjoiccehiglaa.LibF Go.Proofs.Ytbgjoiccehiglaa.LibG
theorem rd_of {l : List ByteArray} {i : Nat} (h : i < l.length) : rdOf ByteArray.empty l (i : Int) = l[i] := by
  simp [rdOf, List.getD_eq_getElem?_getD, h]
theorem few_l (l : List ByteArray) (most : Int) : ∀ (d i k : Nat), i + d = l.length → l.length ≤ 9223372036854775000 → d < k → bonsairef04_Few.l0 k l most (i : Int) = some (decide (∀ x ∈ l.drop i, (x.size : Int) ≤ most))
  | d, i, 0, _, _, hk => by omega
  | d, i, k + 1, hi, hl, hk => by
    simp only [bonsairef04_Few.l0]
    cases d with
    | zero =>
      rw [if_neg (by omega), List.drop_eq_nil_of_le (by omega)]
      simp
    | succ d =>
      have hlt : i < l.length := by omega
      rw [if_pos (by omega), if_pos (by omega), rd_of hlt, List.drop_eq_getElem_cons hlt]
      by_cases h : (l[i].size : Int) > most
      · rw [if_pos h]
        congr 1
        symm
        rw [decide_eq_false_iff_not]
        intro hall
        have := hall l[i] List.mem_cons_self
        omega
      · rw [if_neg h, w64 (by omega) (by omega), show (i : Int) + 1 = ((i + 1 : Nat) : Int) by omega, few_l l most d (i + 1) k (by omega) hl (by omega)]
        congr 1
        rw [decide_eq_decide, List.forall_mem_cons]
        exact ⟨fun h' => ⟨by omega, h'⟩, fun h' => h'.2⟩
theorem few_some (l : List ByteArray) (n most : Int) (hl : n ≤ 9223372036854775000) (k : Nat) (hk : n.toNat + 1 ≤ k) (hn : 0 ≤ n) : bonsairef04_Few.f k l n most = some (decide ((l.length : Int) ≤ n ∧ ∀ x ∈ l, (x.size : Int) ≤ most)) := by
  unfold bonsairef04_Few.f
  by_cases h : (l.length : Int) > n
  · rw [if_pos h]
    congr 1
    symm
    simp
    omega
  · rw [if_neg h]
    have := few_l l most l.length 0 k (by omega) (by omega) (by omega)
    simp only [Int.natCast_zero, List.drop_zero] at this
    rw [this]
    congr 1
    simp
    omega
end Go.Proofs.Ytbgjoiccehiglaa.Pure
end
section
namespace Go.Proofs.Ytbgjoiccehiglaa.Print
open Go.RowKit Go.Proofs.YtbgjoiccehiglaaW.PrintWords Go.Proofs.YtbgjoiccehiglaaW.PrintLast Go.Proofs.YtbgjoiccehiglaaW.PrintMore
attribute [local go_sem] max2_int min2_int max_two min_two max_three min_three max_four min_four
set_option linter.unusedVariables false
set_option linter.unusedSimpArgs false
def wordAt (s : ByteArray) : List ByteArray → Nat → Option Nat
  | [], _ => none
  | x :: xs, i => if x.data.toList = s.data.toList then some i else wordAt s xs (i + 1)
def dictG : List ByteArray → List ByteArray → List Int → List ByteArray × List Int
  | [], w, a => (w, a)
  | s :: l, w, a => match wordAt s w 0 with
    | some k => dictG l w (a ++ [(k : Int)])
    | none => dictG l (w ++ [s]) (a ++ [(w.length : Int)])
def sKey (s : ByteArray) : Lit := .string s.data.toList
theorem wordAt_snoc (t s : ByteArray) : ∀ (l : List ByteArray) (i : Nat), wordAt t (l ++ [s]) i = match wordAt t l i with
    | some k => some k
    | none => if s.data.toList = t.data.toList then some (i + l.length) else none
  | [], i => by simp [wordAt]
  | x :: xs, i => by
    show (if x.data.toList = t.data.toList then some i else wordAt t (xs ++ [s]) (i + 1)) = match (if x.data.toList = t.data.toList then some i else wordAt t xs (i + 1)) with
      | some k => some k
      | none => _
    by_cases h : x.data.toList = t.data.toList
    · rw [if_pos h, if_pos h]
    · rw [if_neg h, if_neg h, wordAt_snoc t s xs (i + 1), List.length_cons, show i + 1 + xs.length = i + (xs.length + 1) by omega]
theorem wordAt_lt (s : ByteArray) : ∀ (l : List ByteArray) (i k : Nat), wordAt s l i = some k → i ≤ k ∧ k < i + l.length
  | [], i, k, h => by simp [wordAt] at h
  | x :: xs, i, k, h => by
    unfold wordAt at h
    split at h
    · injection h with h; subst h; simp
    · have := wordAt_lt s xs (i + 1) k h
      simp only [List.length_cons]; omega
structure MapsTo (D : DataW Unit) (words : List ByteArray) : Prop where
  isMap : Maps.IsMap D
  at_ : ∀ s k, wordAt s words 0 = some k → D.atKey (sKey s) (.lit (.int .u64 0)) = .lit (.int .u64 (k : Int))
  has_ : ∀ s, Maps.has D (sKey s) = (wordAt s words 0).isSome
theorem mapsTo_nil : MapsTo (.map []) [] := ⟨Maps.isMap_empty, fun s k h => by simp [wordAt] at h, fun s => rfl⟩
theorem mapsTo_put {D : DataW Unit} {words : List ByteArray} (h : MapsTo D words) (s : ByteArray) (hs : wordAt s words 0 = none) : MapsTo (D.put (sKey s) (.lit (.int .u64 (words.length : Int)))) (words ++ [s]) := by
  have hk : WideAt.IsKeyLit (sKey s) := by unfold sKey WideAt.IsKeyLit; trivial
  refine ⟨h.isMap.put _ _, fun t k ht => ?_, fun t => ?_⟩
  · rw [wordAt_snoc, Nat.zero_add] at ht
    by_cases hst : s.data.toList = t.data.toList
    · have e : sKey t = sKey s := by unfold sKey; rw [hst]
      rw [e, Maps.atKey_put_same h.isMap hk]
      cases hw : wordAt t words 0 with
      | some j =>
        exfalso
        have : ∀ (l : List ByteArray) (i : Nat), wordAt t l i = wordAt s l i := by
          intro l
          induction l with
          | nil => intro i; rfl
          | cons x xs ih => intro i; unfold wordAt; rw [hst, ih]
        rw [this, hs] at hw
        cases hw
      | none =>
        rw [hw] at ht
        simp only [if_pos hst, Option.some.injEq] at ht
        rw [ht]
    · have e : sKey t ≠ sKey s := by unfold sKey; intro h; injection h with h; exact hst h.symm
      rw [Maps.atKey_put_other e]
      cases hw : wordAt t words 0 with
      | some j => rw [hw] at ht; injection ht with ht; subst ht; exact h.at_ t _ hw
      | none => rw [hw] at ht; simp only [if_neg hst] at ht; cases ht
  · rw [wordAt_snoc]
    by_cases hst : s.data.toList = t.data.toList
    · have e : sKey t = sKey s := by unfold sKey; rw [hst]
      rw [e, Maps.has_put_same h.isMap hk]
      cases hw : wordAt t words 0 with
      | some j => rfl
      | none => simp only [if_pos hst]; rfl
    · have e : sKey t ≠ sKey s := by unfold sKey; intro h; injection h with h; exact hst h.symm
      rw [Maps.has_put_other e, h.has_]
      cases hw : wordAt t words 0 with
      | some j => rfl
      | none => simp only [if_neg hst]
def dict_Words.f (l0 : List ByteArray) : Option (List ByteArray × List Int) := if l0.length ≤ 1000000000000 ∧ (∀ s ∈ l0, s.size ≤ 140737488355328) then some (dictG l0 [] []) else none
set_option maxRecDepth 100000 in
theorem zero51 (w : World) : (zeroValue 51).run Try.prog w = .ok (.int .u64 0) w := by rfl
set_option maxHeartbeats 8000000 in
set_option maxRecDepth 100000 in
theorem dict_Words.calls (A0 : Option Addr) (c0 : Nat) (l0 : List ByteArray) (r1 : List ByteArray) (r2 : List Int) (w : World) (hr0 : Kd.C Kd.string w A0 l0.length l0) (hc0 : l0.length ≤ c0) (h : dict_Words.f l0 = some (r1, r2)) :
    Calls Try.prog 65 #[.slice A0 l0.length c0] w fun e w' => ∃ (v0_ v1_ : Value), e = .returned (.tuple #[v0_, v1_]) ∧ Kd.R Kd.string 9 w' w.heap.size (fun _ => True) v0_ r1 ∧ Kd.R (Kd.int .u64) 51 w' w.heap.size (fun _ => True) v1_ r2 ∧ Below w.heap.size w w' := by
  have HR0 := Aside0.mk hr0
  have HC0 := Aside0.mk hc0
  unfold dict_Words.f at h
  by_cases hlen : l0.length ≤ 1000000000000 ∧ (∀ s ∈ l0, s.size ≤ 140737488355328)
  case neg => rw [if_neg hlen] at h; exact absurd h (by simp)
  rw [if_pos hlen] at h
  have H' := Aside0.mk (Option.some.inj h)
  have LM := Aside0.mk hlen
  clear hr0 hc0 h hlen
  have hmm : ∀ w : World, (Instr.makeMap 111 none).run Try.prog w = .ok (.map (some w.heap.size)) (w.alloc (.map #[] 0)) := fun _ => rfl
  go_enter Try.func65, Try.ntmps65
  go_wp2_with ((with_reducible refine gate_dst (N := 14) rfl ?_); refine Kd.R_make (Kd.int .u64) (w0 := w) w.heap.size 51 rfl (N := 14) rfl 38 (.tmp 13) (.tmp 13) rfl (l0.length : Int) rfl rfl Try.underlying38 (.int .u64 0) 8 info51 rfl (by decide) (by decide) (0 : Int) (ok := fun k_ => k_ ≠ w.heap.size) (okp := fun _ => False) rfl (fun _ hk => hk.elim) ?aF ?a0 ?aL ?aB ?aS ?_; (case aF => simp); (case a0 => omega); (case aL => have := LM.out.1; omega); (case aB => exact below_alloc (Below.refl _ _) _); (case aS => simp); intro v6 w2 ho hb hg hnw; have HT := Aside0.mk ho; have HB := Aside0.mk hb; have HM := Aside0.mk (World.ownsMap.kept (H := Unit) (World.ownsMap_made w Try.prog 9 (plainElem Try.prog 51)) hg (by simp)); clear ho hb hg hnw)
  go_loopg [5, 17] (l0.length + 1) (fun kq v5 v17 w' => ∃ (i : Int) (n : Nat) (D : DataW Unit) (words : List ByteArray) (places : List Int), v17 = .int .i64 i ∧ Aside0 (0 ≤ i ∧ i ≤ l0.length ∧ (kq : Int) + i = l0.length + 1 ∧ n ≤ i ∧ words.length ≤ i ∧ places.length = i) ∧ Aside0 (dictG (l0.drop i.toNat) words places = (r1, r2)) ∧ Aside0 (MapsTo D words) ∧ Aside0 (w'.ownsMap Try.prog 9 (plainElem Try.prog 51) w.heap.size n D) ∧ Aside0 (Kd.R Kd.string 9 w' w.heap.size (fun k_ => k_ ≠ w.heap.size) v5 words) ∧ Aside0 (Kd.R (Kd.int .u64) 51 w' w.heap.size (fun k_ => k_ ≠ w.heap.size) v6 (places ++ List.replicate (l0.length - i.toNat) 0)) ∧ Aside0 (Below w.heap.size w w'))
  case atStart => exact ⟨0, 0, .map [], [], [], by simp, ⟨by simp⟩, H', ⟨mapsTo_nil⟩, HM, ⟨Kd.R_nil _ _ _ _ _⟩, ⟨by simpa using HT.out⟩, HB⟩
  case round =>
    clear H' HT HM HB
    obtain ⟨i, n, D, words, places, rfl, HK, HG, HD, HM, HW, HT, HB⟩ := hrel
    cases gk with
    | zero => have := HK.out; exact absurd this (by omega)
    | succ k1 =>
      by_cases hi : i < (l0.length : Int)
      · have hib : decide (i < (l0.length : Int)) = true := decide_eq_true hi
        have hk9 := HK.out
        have hG := HG.out
        clear HG
        obtain ⟨s, hs⟩ : ∃ s, s = rdOf ByteArray.empty l0 i := ⟨_, rfl⟩
        have hdrop : l0.drop i.toNat = s :: l0.drop (i.toNat + 1) := by
          rw [List.drop_eq_getElem_cons (show i.toNat < l0.length by omega), hs]
          congr 1
          unfold rdOf
          simp [List.getD_eq_getElem?_getD, show i.toNat < l0.length by omega]
        have hsz : s.size ≤ 140737488355328 := LM.out.2 s (List.mem_of_mem_drop (i := i.toNat) (by rw [hdrop]; exact List.mem_cons_self))
        rw [hdrop] at hG
        unfold dictG at hG
        have p29 : 0 ≤ i := by omega
        obtain ⟨ad, e0, hx0⟩ := Kd.at_string HR0.out i p29 hi
        subst e0
        have hx := (HB.out.cell (World.block_lt_of_cell? w _ hx0)).trans hx0
        rw [← hs] at hx
        have HKEY := Aside0.mk (Go.WideMaps.keyOf_string_mk (P := Try.prog) (k := 9) Try.underlying9 (s := s) (by have h_ : (140737488355328 : Nat) ≤ maxLen := (by decide); omega))
        have HI := Aside0.mk hi
        replace p29 := eq_true p29
        replace hi := eq_true hi
        obtain ⟨Aw, cw, ew⟩ := Kd.R_slice HW.out
        subst ew
        obtain ⟨g6, c6, e6, hg6⟩ := Kd.R_form HT.out (by have := HI.out; have := HK.out; rw [List.length_append, List.length_replicate]; omega)
        have hlen6 : (places ++ List.replicate (l0.length - i.toNat) (0 : Int)).length = l0.length := by have := HI.out; have := HK.out; rw [List.length_append, List.length_replicate]; omega
        rw [hlen6] at e6
        subst e6
        clear hdrop hx0 hs hk9
        have hwr : IntKind.u64.wrap (words.length : Int) = (words.length : Int) := by have := HK.out; have := LM.out.1; simp [IntKind.wrap, IntKind.bits, IntKind.signed]; omega
        have hwi : wrap64 (i + 1) = i + 1 := by have := HK.out; have := LM.out.1; unfold wrap64; omega
        have hfin : ∀ x : Int, (places ++ List.replicate (l0.length - i.toNat) (0 : Int)).set i.toNat x = (places ++ [x]) ++ List.replicate (l0.length - (i + 1).toNat) (0 : Int) := fun x => by
          have hk := HK.out
          have hi2 := HI.out
          rw [List.set_append_right _ _ (by omega), show i.toNat - places.length = 0 by omega, show l0.length - i.toNat = (l0.length - (i + 1).toNat) + 1 by omega, List.replicate_succ, List.set_cons_zero, List.append_assoc]
          rfl
        have hi1 : (i + 1).toNat = i.toNat + 1 := by have := HK.out; omega
        have HF := Aside0.mk hfin
        clear hfin
        cases hw : wordAt s words 0 with
        | some k =>
          rw [hw] at hG
          have H' := Aside0.mk hG
          have hhas : Maps.has D (.string s.data.toList) = true := by have := HD.out.has_ s; rw [hw] at this; exact this
          have HAT := Aside0.mk (HD.out.at_ s k hw)
          clear hG hw
          have hc6 := (Kd.R_celln (0 : Int) HT.out i (of_eq_true p29) (of_eq_true hi)).1
          have hf6 := (Kd.R_celln (0 : Int) HT.out i (of_eq_true p29) (of_eq_true hi)).2
          go_wp2_with (first | (at_lookup; refine wpList_lookup_own_ok_int _ rfl _ _ 111 rfl 9 51 .u64 (Maps.string_keyed Try.underlying9) Try.underlying111 Try.underlying51 (zero51 _) w.heap.size n D rfl HM.out _ _ rfl HKEY.out ?_; intro c hat hwc; have HC := Aside0.mk (show c = (k : Int) from by have h1 := hat.symm.trans HAT.out; injection h1 with h1; injection h1); clear hat hwc))
          go_roundg k1
          case measure => have := HK.out; omega
          case rel =>
            have hk := HK.out
            refine ⟨i + 1, n, D, words, places ++ [(k : Int)], (by first | rfl | (simp; done) | (simp [*]; done)), ⟨by have := HI.out; rw [List.length_append]; simp only [List.length_cons, List.length_nil]; omega⟩, ⟨by rw [hi1]; exact H'.out⟩, HD, ⟨World.ownsMap.setCell HM.out (by show w.heap.size ≠ g6; exact fun h_ => HT.out.1 g6 rfl h_.symm) _⟩, ⟨Kd.R_set HW.out hg6.2.2.choose_spec (by decide) _ _⟩, ⟨?_⟩, ⟨below_set HB.out hg6.1⟩⟩
            have h3 := Kd.R_putn HT.out i (k : Int)
            rw [HF.out] at h3
            rw [HC.out]
            exact h3
        | none =>
          rw [hw] at hG
          have H' := Aside0.mk hG
          have HN := Aside0.mk hw
          have hhas : Maps.has D (.string s.data.toList) = false := by have := HD.out.has_ s; rw [hw] at this; exact this
          clear hG hw
          go_wp2_with (first | (at_lookup; refine wpList_lookup_own_ok_int _ rfl _ _ 111 rfl 9 51 .u64 (Maps.string_keyed Try.underlying9) Try.underlying111 Try.underlying51 (zero51 _) w.heap.size n D rfl HM.out _ _ rfl HKEY.out ?_; intro c hat hwc; clear hat hwc) | (at_mapUpdate; refine wpList_mapUpdate_own _ rfl _ _ _ 111 rfl 9 51 (Maps.string_keyed Try.underlying9) Try.underlying111 (plainElem Try.prog 51) w.heap.size n D rfl HM.out (by have := HK.out; have := LM.out.1; have : (1000000000000 : Nat) < maxLen := (by decide); omega) _ _ (.string s.data.toList) rfl rfl HKEY.out (.lit (.int .u64 (words.length : Int))) [] (plainElem_int Try.underlying51 (by have := HK.out; have := LM.out.1; simp [Lit.wf, IntKind.min, IntKind.max, IntKind.bits, IntKind.signed]; omega)) ?_; intro w3 hown hgr; have n0_ := Aside0.mk (Kd.R_grown HW.out hgr (fun k_ hk he_ => hk (Option.some.inj he_))); have n1_ := Aside0.mk (Kd.R_grown HT.out hgr (fun k_ hk he_ => hk (Option.some.inj he_))); have n2_ := Aside0.mk (HB.out.grown hgr (below_size HB.out) (fun k_ hk => by have h_ := Option.some.inj hk; omega)); clear HM HW HT HB; have HM := Aside0.mk hown; have HW := n0_; have HT := n1_; have HB := n2_; clear n0_ n1_ n2_ hown hgr) | ((with_reducible refine gate_builtin (b := .append) (xs := #[.tmp 36, .tmp 38]) rfl ?_); at_builtin; refine Kd.R_append Kd.string (w0 := w) w.heap.size rfl (.tmp 36) (.tmp 38) 35 9 (.string ⟨#[]⟩) 16 rfl Try.underlying35 info9 rfl (by decide) (by decide) (.slice Aw words.length cw) words s [.string s] (fun k_ => k_ ≠ w.heap.size) (fun _ => False) rfl rfl rfl (fun _ hk => hk.elim) (fun k_ hk => by have := World.ownsMap.lt HM.out; omega) HW.out HB.out (below_size HB.out) (by have := HK.out; have := LM.out.1; omega) ?_; intro v4 w4 ho hb hg hat; have n0_ := Aside0.mk (World.ownsMap.kept HM.out hg (fun he_ => HW.out.1 _ he_.symm rfl)); have n1_ := Aside0.mk (Kd.R_over HT.out HW.out (by decide) hg); have n2_ := Aside0.mk hb; clear HM HT HB HW; have HM := n0_; have HT := n1_; have HB := n2_; have HW := Aside0.mk ho; clear n0_ n1_ n2_ ho hb hg hat; have hc6 := (Kd.R_celln (0 : Int) HT.out i (of_eq_true p29) (of_eq_true hi)).1; have hf6 := (Kd.R_celln (0 : Int) HT.out i (of_eq_true p29) (of_eq_true hi)).2))
          go_roundg k1
          case measure => have := HK.out; omega
          case rel =>
            have hk := HK.out
            refine ⟨i + 1, n + 1, _, words ++ [s], places ++ [(words.length : Int)], (by first | rfl | (simp; done) | (simp [*]; done)), ⟨by have := HI.out; rw [List.length_append, List.length_append]; simp only [List.length_cons, List.length_nil]; omega⟩, ⟨by rw [hi1]; exact H'.out⟩, ⟨mapsTo_put HD.out s HN.out⟩, ⟨World.ownsMap.setCell HM.out (by show w.heap.size ≠ g6; exact fun h_ => HT.out.1 g6 rfl h_.symm) _⟩, ⟨?_⟩, ⟨?_⟩, ⟨below_set HB.out hg6.1⟩⟩
            · obtain ⟨cells, hcells⟩ := Kd.R_typed HT.out g6 rfl
              exact Kd.R_set HW.out hcells (by decide) _ _
            · have h3 := Kd.R_putn HT.out i (words.length : Int)
              rw [HF.out] at h3
              exact h3
      · have hib : decide (i < (l0.length : Int)) = false := decide_eq_false hi
        have hk9 := HK.out
        have hG := HG.out
        rw [List.drop_eq_nil_of_le (by omega)] at hG
        have hG2 : (words, places) = (r1, r2) := hG
        injection hG2 with h1 h2
        subst h1
        subst h2
        have hz : l0.length - i.toNat = 0 := by omega
        clear hG HG hi
        go_wp2
        go_ret2
        refine ⟨_, _, rfl, Kd.R_mono HW.out (fun _ _ => trivial), ?_, HB.out⟩
        have := HT.out
        rw [hz] at this
        simpa using Kd.R_mono this (fun _ _ => trivial)
theorem step_unguard {P : Program} {ops : Array Oper} {o : Oper} {a : Act} {w : World} {K : Act → World → Prop} {Q : Exit → Act → World → Prop} {E : Prop} (hw : Region.wanted o (yielded ops a.tmps) = true)
    (h : if Region.wanted { o with guard := none } (yielded ops a.tmps) = true then Oper.wp P { o with guard := none } a w K Q else E) : if Region.wanted o (yielded ops a.tmps) = true then Oper.wp P o a w K Q else E := by
  rw [if_pos hw]
  rw [if_pos (show Region.wanted { o with guard := none } (yielded ops a.tmps) = true by simp [Region.wanted])] at h
  exact h
theorem cut_one (aw : Addr) (n c0 : Nat) (x : Int) (hx : 0 ≤ x) (h1 : x < n) (hc : n ≤ c0) (W : World) : (Instr.slice 35 (.slice (some aw) n c0) (some (.int .u64 x)) (some (.int .u64 (x + 1))) none).run Try.prog W = .ok (.slice (some (aw.add x.toNat)) 1 (c0 - x.toNat)) W := by
  obtain ⟨i0, hi, _, hz1, _⟩ := info_parts info9
  have h := cut_mid (P := Try.prog) 35 9 .u64 .u64 Try.underlying35 hi 1 hz1 (some aw) n c0 x (x + 1) hx (by omega) (by omega) hc W
  rw [if_neg (by omega), show (x + 1).toNat - x.toNat = 1 by omega, Nat.mul_one] at h
  exact h
def dictP (words : List ByteArray) : List Int → List ByteArray → Option (List ByteArray)
  | [], out => some out
  | k :: ks, out => if k ≥ (words.length : Int) then none else dictP words ks (out ++ [rdOf ByteArray.empty words k])
def dict_Pick.f (l0 : List ByteArray) (l1 : List Int) : Option (List ByteArray × Bool) := if l0.length ≤ 1000000000000 ∧ l1.length ≤ 1000000000000 ∧ (∀ x ∈ l1, 0 ≤ x) then (match dictP l0 l1 [] with
  | none => some ([], false)
  | some out => some (out, true)) else none
set_option maxHeartbeats 8000000 in
set_option maxRecDepth 100000 in
theorem dict_Pick.calls (A0 : Option Addr) (c0 : Nat) (l0 : List ByteArray) (A1 : Option Addr) (c1 : Nat) (l1 : List Int) (r1 : List ByteArray) (r2 : Bool) (w : World) (hr0 : Kd.C Kd.string w A0 l0.length l0) (hc0 : l0.length ≤ c0) (hr1 : Kd.C (Kd.int .u64) w A1 l1.length l1) (hc1 : l1.length ≤ c1) (h : dict_Pick.f l0 l1 = some (r1, r2)) :
    Calls Try.prog 67 #[.slice A0 l0.length c0, .slice A1 l1.length c1] w fun e w' => ∃ v0_ : Value, e = .returned (.tuple #[v0_, .bool r2]) ∧ Kd.R Kd.string 9 w' w.heap.size (fun _ => True) v0_ r1 ∧ Below w.heap.size w w' := by
  unfold dict_Pick.f at h
  by_cases hlen : l0.length ≤ 1000000000000 ∧ l1.length ≤ 1000000000000 ∧ (∀ x ∈ l1, 0 ≤ x)
  case neg => rw [if_neg hlen] at h; exact absurd h (by simp)
  rw [if_pos hlen] at h
  have HR0 := Aside0.mk hr0
  have HC0 := Aside0.mk hc0
  have HR1 := Aside0.mk hr1
  have H' := Aside0.mk h
  have LM := Aside0.mk hlen
  obtain ⟨N, hN⟩ : ∃ N, N = l1.length := ⟨_, rfl⟩
  obtain ⟨i0, hi, hz0, hz1, hz2⟩ := info_parts info9
  have hmk : ∀ w, (Instr.makeSlice 35 (.int .i64 (l1.length : Int)) (.int .i64 (l1.length : Int))).run Try.prog w = .ok (.slice (some ⟨w.heap.size, 0, none⟩) N N) (w.alloc (.cells (List.replicate N (Value.string ⟨#[]⟩)).toArray 9)) := fun w => by
    have h := run_make (P := Try.prog) w 35 9 i0 _ Try.underlying35 hi hz0 .i64 .i64 (l1.length : Int) (l1.length : Int) (by omega) (Int.le_refl _) (by have := LM.out.2.1; rw [hz2]; omega) (by have := LM.out.2.1; omega)
    rw [h, hN, hz1, Int.toNat_natCast]
    congr 2
    congr 1
    apply Array.ext
    · simp [madeCells]
    · intro j h1 h2
      simp [madeCells, Value.cells, Nat.mod_one]
  have hszE : (Try.prog.info? 9).map (·.size) = some 1 := by rw [hi]; simp [hz1]
  have HN := Aside0.mk hN
  have HMK := Aside0.mk hmk
  have hwr0 : IntKind.u64.wrap (l0.length : Int) = (l0.length : Int) := by have := LM.out.1; simp [IntKind.wrap, IntKind.bits, IntKind.signed]; omega
  clear hr0 hc0 hr1 hc1 h hlen hmk hN hi hz0 hz1 hz2
  go_enter Try.func67, Try.ntmps67
  go_wp2_with ((with_reducible refine gate_dst (N := 11) rfl ?_); (refine Build.make_event rfl (D := 11) rfl (cs := (List.replicate N (Value.string ⟨#[]⟩)).toArray) (t := 9) N N ?hr ?_); (case hr => (have h_ := HMK.out w); first | (go_simp; done) | (go_simp; rfl) | (go_simp; rw [h_]; rfl)); intro g hg w3 hblk hb; have HBK0 := Aside0.mk hblk; have HB0 := Aside0.mk hb; subst hg; clear hblk hb)
  go_loopg [14] (l1.length + 1) (fun kq v14 w' => ∃ (i : Int) (out : List ByteArray), v14 = .int .i64 i ∧ Aside0 (0 ≤ i ∧ i ≤ l1.length ∧ (kq : Int) + i = l1.length + 1 ∧ out.length = i) ∧ Aside0 ((match dictP l0 (l1.drop i.toNat) out with
    | none => some ([], false)
    | some out => some (out, true)) = some (r1, r2)) ∧ Aside0 (w'.heap[w.heap.size]? = some (.cells (out.map Value.string ++ List.replicate (N - i.toNat) (Value.string ⟨#[]⟩)).toArray 9 (0, 0))) ∧ Aside0 (Below w.heap.size w w'))
  case atStart => exact ⟨0, [], by simp, ⟨by simp⟩, H', ⟨by simpa using HBK0.out⟩, HB0⟩
  case round =>
    clear H' HB0 HBK0
    obtain ⟨i, out, rfl, HK, HG, HBK, HB⟩ := hrel
    cases gk with
    | zero => have := HK.out; exact absurd this (by omega)
    | succ k1 =>
      by_cases hi : i < (l1.length : Int)
      · have hib : decide (i < (l1.length : Int)) = true := decide_eq_true hi
        have hk9 := HK.out
        have hG := HG.out
        clear HG
        obtain ⟨x, hx1⟩ : ∃ x, x = rd l1 i := ⟨_, rfl⟩
        have hdrop : l1.drop i.toNat = x :: l1.drop (i.toNat + 1) := by
          rw [List.drop_eq_getElem_cons (show i.toNat < l1.length by omega), hx1]
          congr 1
          unfold rd
          simp [List.getD_eq_getElem?_getD, show i.toNat < l1.length by omega]
        have hx9 : 0 ≤ x := LM.out.2.2 x (List.mem_of_mem_drop (i := i.toNat) (by rw [hdrop]; exact List.mem_cons_self))
        rw [hdrop] at hG
        unfold dictP at hG
        have p29 : 0 ≤ i := by omega
        obtain ⟨ad, e0, hx0⟩ := Kd.at_int HR1.out i p29 hi
        subst e0
        have hx := (HB.out.cell (World.block_lt_of_cell? w _ hx0)).trans hx0
        rw [← hx1] at hx
        have HI := Aside0.mk hi
        have HX := Aside0.mk hx9
        have hi1 : (i + 1).toNat = i.toNat + 1 := by omega
        have hwi : wrap64 (i + 1) = i + 1 := by have := LM.out.2.1; unfold wrap64; omega
        have q6 : i ≤ (N : Int) := by have := HN.out; omega
        have hne6 := eq_false (show ¬ N = i.toNat by have := HN.out; omega)
        replace q6 := eq_true q6
        replace p29 := eq_true p29
        replace hi := eq_true hi
        clear hdrop hx0 hx1 hx9 hk9
        by_cases c2 : x ≥ (l0.length : Int)
        · rw [if_pos c2] at hG
          have c2b : decide ((l0.length : Int) ≤ x) = true := decide_eq_true c2
          clear c2
          simp only [Option.some.injEq, Prod.mk.injEq] at hG
          obtain ⟨rfl, rfl⟩ := hG
          try go_wp2
          refine start_ (n := 17) (S := fun _ => True) (ds := []) #[false, false, false, false, false, false, false, false, false, false, false, false, false, false, false, false, false] (by kernel_rfl) rfl rfl trivial (fun hHeld => ?_)
          refine pure_ (i := 0) (N := some 19) (v := .int .u64 x) (a' := ?_) #[true, false, false, false, false, false, false, false, false, false, false, false, false, false, false, false, false] rfl rfl (by kernel_rfl) (fun _ _ _ h => h) (Or.inl ⟨by kernel_rfl, fun w' => by go_simp⟩) ?_ ?_
          rotate_left
          · simp only [Act.put, List.setIfInBounds_toArray, List.set_cons_zero, List.set_cons_succ]
            rfl
          refine pure_ (i := 1) (N := some 20) (v := .slice A0 l0.length c0) (a' := ?_) #[true, true, false, false, false, false, false, false, false, false, false, false, false, false, false, false, false] rfl rfl (by kernel_rfl) (fun _ _ _ h => h) (Or.inl ⟨by kernel_rfl, fun w' => by go_simp⟩) ?_ ?_
          rotate_left
          · simp only [Act.put, List.setIfInBounds_toArray, List.set_cons_zero, List.set_cons_succ]
            rfl
          refine pure_ (i := 2) (N := some 21) (v := .int .i64 (l0.length : Int)) (a' := ?_) #[true, true, true, false, false, false, false, false, false, false, false, false, false, false, false, false, false] rfl rfl (by kernel_rfl) (fun _ _ _ h => h) (Or.inl ⟨by kernel_rfl, fun w' => by go_simp⟩) ?_ ?_
          rotate_left
          · simp only [Act.put, List.setIfInBounds_toArray, List.set_cons_zero, List.set_cons_succ]
            rfl
          refine pure_ (i := 3) (N := some 22) (v := .int .u64 (l0.length : Int)) (a' := ?_) #[true, true, true, true, false, false, false, false, false, false, false, false, false, false, false, false, false] rfl rfl (by kernel_rfl) (fun _ _ _ h => h) (Or.inl ⟨by kernel_rfl, fun w' => by go_simp⟩) ?_ ?_
          rotate_left
          · simp only [Act.put, List.setIfInBounds_toArray, List.set_cons_zero, List.set_cons_succ]
            rfl
          refine pure_ (i := 4) (N := some 23) (v := .bool true) (a' := ?_) #[true, true, true, true, true, false, false, false, false, false, false, false, false, false, false, false, false] rfl rfl (by kernel_rfl) (fun _ _ _ h => h) (Or.inl ⟨by kernel_rfl, fun w' => by go_simp⟩) ?_ ?_
          rotate_left
          · simp only [Act.put, List.setIfInBounds_toArray, List.set_cons_zero, List.set_cons_succ]
            rfl
          refine pure_ (i := 5) (N := some 24) (v := .bool true) (a' := ?_) #[true, true, true, true, true, true, false, false, false, false, false, false, false, false, false, false, false] rfl rfl (by kernel_rfl) (fun _ _ _ h => h) (Or.inl ⟨by kernel_rfl, fun w' => by go_simp⟩) ?_ ?_
          rotate_left
          · simp only [Act.put, List.setIfInBounds_toArray, List.set_cons_zero, List.set_cons_succ]
            rfl
          refine pure_ (i := 6) (N := some 25) (v := undef) (a' := ?_) #[true, true, true, true, true, true, true, false, false, false, false, false, false, false, false, false, false] rfl rfl (by kernel_rfl) (fun _ _ _ h => h) (Or.inr ⟨by kernel_rfl, rfl⟩) ?_ ?_
          rotate_left
          · simp only [Act.put, List.setIfInBounds_toArray, List.set_cons_zero, List.set_cons_succ]
            rfl
          refine pure_ (i := 7) (N := some 26) (v := undef) (a' := ?_) #[true, true, true, true, true, true, true, true, false, false, false, false, false, false, false, false, false] rfl rfl (by kernel_rfl) (fun _ _ _ h => h) (Or.inr ⟨by kernel_rfl, rfl⟩) ?_ ?_
          rotate_left
          · simp only [Act.put, List.setIfInBounds_toArray, List.set_cons_zero, List.set_cons_succ]
            rfl
          refine pure_ (i := 8) (N := some 27) (v := undef) (a' := ?_) #[true, true, true, true, true, true, true, true, true, false, false, false, false, false, false, false, false] rfl rfl (by kernel_rfl) (fun _ _ _ h => h) (Or.inr ⟨by kernel_rfl, rfl⟩) ?_ ?_
          rotate_left
          · simp only [Act.put, List.setIfInBounds_toArray, List.set_cons_zero, List.set_cons_succ]
            rfl
          refine pure_ (i := 9) (N := some 28) (v := undef) (a' := ?_) #[true, true, true, true, true, true, true, true, true, true, false, false, false, false, false, false, false] rfl rfl (by kernel_rfl) (fun _ _ _ h => h) (Or.inr ⟨by kernel_rfl, rfl⟩) ?_ ?_
          rotate_left
          · simp only [Act.put, List.setIfInBounds_toArray, List.set_cons_zero, List.set_cons_succ]
            rfl
          refine pure_ (i := 10) (N := some 29) (v := undef) (a' := ?_) #[true, true, true, true, true, true, true, true, true, true, true, false, false, false, false, false, false] rfl rfl (by kernel_rfl) (fun _ _ _ h => h) (Or.inr ⟨by kernel_rfl, rfl⟩) ?_ ?_
          rotate_left
          · simp only [Act.put, List.setIfInBounds_toArray, List.set_cons_zero, List.set_cons_succ]
            rfl
          refine pure_ (i := 11) (N := some 30) (v := undef) (a' := ?_) #[true, true, true, true, true, true, true, true, true, true, true, true, false, false, false, false, false] rfl rfl (by kernel_rfl) (fun _ _ _ h => h) (Or.inr ⟨by kernel_rfl, rfl⟩) ?_ ?_
          rotate_left
          · simp only [Act.put, List.setIfInBounds_toArray, List.set_cons_zero, List.set_cons_succ]
            rfl
          refine pure_ (i := 12) (N := some 31) (v := undef) (a' := ?_) #[true, true, true, true, true, true, true, true, true, true, true, true, true, false, false, false, false] rfl rfl (by kernel_rfl) (fun _ _ _ h => h) (Or.inr ⟨by kernel_rfl, rfl⟩) ?_ ?_
          rotate_left
          · simp only [Act.put, List.setIfInBounds_toArray, List.set_cons_zero, List.set_cons_succ]
            rfl
          refine pure_ (i := 13) (N := some 32) (v := undef) (a' := ?_) #[true, true, true, true, true, true, true, true, true, true, true, true, true, true, false, false, false] rfl rfl (by kernel_rfl) (fun _ _ _ h => h) (Or.inr ⟨by kernel_rfl, rfl⟩) ?_ ?_
          rotate_left
          · simp only [Act.put, List.setIfInBounds_toArray, List.set_cons_zero, List.set_cons_succ]
            rfl
          refine pure_ (i := 14) (N := some 33) (v := undef) (a' := ?_) #[true, true, true, true, true, true, true, true, true, true, true, true, true, true, true, false, false] rfl rfl (by kernel_rfl) (fun _ _ _ h => h) (Or.inr ⟨by kernel_rfl, rfl⟩) ?_ ?_
          rotate_left
          · simp only [Act.put, List.setIfInBounds_toArray, List.set_cons_zero, List.set_cons_succ]
            rfl
          refine pure_ (i := 15) (N := some 34) (v := undef) (a' := ?_) #[true, true, true, true, true, true, true, true, true, true, true, true, true, true, true, true, false] rfl rfl (by kernel_rfl) (fun _ _ _ h => h) (Or.inr ⟨by kernel_rfl, rfl⟩) ?_ ?_
          rotate_left
          · simp only [Act.put, List.setIfInBounds_toArray, List.set_cons_zero, List.set_cons_succ]
            rfl
          refine pure_ (i := 16) (N := some 35) (v := .bool true) (a' := ?_) #[true, true, true, true, true, true, true, true, true, true, true, true, true, true, true, true, true] rfl rfl (by kernel_rfl) (fun _ _ _ h => h) (Or.inl ⟨by kernel_rfl, fun w' => by go_simp⟩) ?_ ?_
          rotate_left
          · simp only [Act.put, List.setIfInBounds_toArray, List.set_cons_zero, List.set_cons_succ]
            rfl
          refine done_ (by kernel_rfl) ?_
          try go_wp2
          go_ret2
          exact ⟨_, rfl, Kd.R_nil _ _ _ _ _, below_drew1 HB.out⟩
        · rw [if_neg c2] at hG
          have c2b : decide ((l0.length : Int) ≤ x) = false := decide_eq_false c2
          have H' := Aside0.mk hG
          have hwx : IntKind.u64.wrap (x + 1) = x + 1 := by have := HX.out; have := LM.out.1; simp [IntKind.wrap, IntKind.bits, IntKind.signed]; omega
          obtain ⟨aw, ew, hw0⟩ := Kd.at_string HR0.out x HX.out (by omega)
          subst ew
          have px := eq_true HX.out
          have px1 := eq_true (show x ≤ x + 1 by omega)
          have px2 := eq_true (show x + 1 ≤ (c0 : Int) by have := HC0.out; omega)
          have px3 := eq_true (show x ≤ (c0 : Int) by have := HC0.out; omega)
          have pne := eq_false (show ¬ c0 = x.toNat by have := HC0.out; have := HX.out; omega)
          have hcut : ∀ W : World, (Instr.slice 35 (.slice (some aw) l0.length c0) (some (.int .u64 x)) (some (.int .u64 (x + 1))) none).run Try.prog W = .ok (.slice (some (aw.add x.toNat)) 1 (c0 - x.toNat)) W := cut_one aw l0.length c0 x HX.out (by omega) HC0.out
          obtain ⟨A13, hA13⟩ : ∃ A, A = aw.add x.toNat := ⟨_, rfl⟩
          obtain ⟨c13, hc13⟩ : ∃ c, c = c0 - x.toNat := ⟨_, rfl⟩
          rw [← hA13, ← hc13] at hcut
          have HA13 := Aside0.mk hA13
          clear c2 hG hA13 hc13
          try go_wp2
          refine start_ (n := 17) (S := fun _ => True) (ds := []) #[false, false, false, false, false, false, false, false, false, false, false, false, false, false, false, false, false] (by kernel_rfl) rfl rfl trivial (fun hHeld => ?_)
          refine pure_ (i := 0) (N := some 19) (v := .int .u64 x) (a' := ?_) #[true, false, false, false, false, false, false, false, false, false, false, false, false, false, false, false, false] rfl rfl (by kernel_rfl) (fun _ _ _ h => h) (Or.inl ⟨by kernel_rfl, fun w' => by go_simp⟩) ?_ ?_
          rotate_left
          · simp only [Act.put, List.setIfInBounds_toArray, List.set_cons_zero, List.set_cons_succ]
            rfl
          refine pure_ (i := 1) (N := some 20) (v := .slice (some aw) l0.length c0) (a' := ?_) #[true, true, false, false, false, false, false, false, false, false, false, false, false, false, false, false, false] rfl rfl (by kernel_rfl) (fun _ _ _ h => h) (Or.inl ⟨by kernel_rfl, fun w' => by go_simp⟩) ?_ ?_
          rotate_left
          · simp only [Act.put, List.setIfInBounds_toArray, List.set_cons_zero, List.set_cons_succ]
            rfl
          refine pure_ (i := 2) (N := some 21) (v := .int .i64 (l0.length : Int)) (a' := ?_) #[true, true, true, false, false, false, false, false, false, false, false, false, false, false, false, false, false] rfl rfl (by kernel_rfl) (fun _ _ _ h => h) (Or.inl ⟨by kernel_rfl, fun w' => by go_simp⟩) ?_ ?_
          rotate_left
          · simp only [Act.put, List.setIfInBounds_toArray, List.set_cons_zero, List.set_cons_succ]
            rfl
          refine pure_ (i := 3) (N := some 22) (v := .int .u64 (l0.length : Int)) (a' := ?_) #[true, true, true, true, false, false, false, false, false, false, false, false, false, false, false, false, false] rfl rfl (by kernel_rfl) (fun _ _ _ h => h) (Or.inl ⟨by kernel_rfl, fun w' => by go_simp⟩) ?_ ?_
          rotate_left
          · simp only [Act.put, List.setIfInBounds_toArray, List.set_cons_zero, List.set_cons_succ]
            rfl
          refine pure_ (i := 4) (N := some 23) (v := .bool false) (a' := ?_) #[true, true, true, true, true, false, false, false, false, false, false, false, false, false, false, false, false] rfl rfl (by kernel_rfl) (fun _ _ _ h => h) (Or.inl ⟨by kernel_rfl, fun w' => by go_simp⟩) ?_ ?_
          rotate_left
          · simp only [Act.put, List.setIfInBounds_toArray, List.set_cons_zero, List.set_cons_succ]
            rfl
          refine pure_ (i := 5) (N := some 24) (v := .bool false) (a' := ?_) #[true, true, true, true, true, true, false, false, false, false, false, false, false, false, false, false, false] rfl rfl (by kernel_rfl) (fun _ _ _ h => h) (Or.inl ⟨by kernel_rfl, fun w' => by go_simp⟩) ?_ ?_
          rotate_left
          · simp only [Act.put, List.setIfInBounds_toArray, List.set_cons_zero, List.set_cons_succ]
            rfl
          refine pure_ (i := 6) (N := some 25) (v := .slice (some ⟨w.heap.size, 0, none⟩) N N) (a' := ?_) #[true, true, true, true, true, true, true, false, false, false, false, false, false, false, false, false, false] rfl rfl (by kernel_rfl) (fun _ _ _ h => h) (Or.inl ⟨by kernel_rfl, fun w' => by go_simp⟩) ?_ ?_
          rotate_left
          · simp only [Act.put, List.setIfInBounds_toArray, List.set_cons_zero, List.set_cons_succ]
            rfl
          refine pure_ (i := 7) (N := some 26) (v := .int .i64 i) (a' := ?_) #[true, true, true, true, true, true, true, true, false, false, false, false, false, false, false, false, false] rfl rfl (by kernel_rfl) (fun _ _ _ h => h) (Or.inl ⟨by kernel_rfl, fun w' => by go_simp⟩) ?_ ?_
          rotate_left
          · simp only [Act.put, List.setIfInBounds_toArray, List.set_cons_zero, List.set_cons_succ]
            rfl
          refine pure_ (i := 8) (N := some 27) (v := .slice (some ⟨w.heap.size, i.toNat, none⟩) (N - i.toNat) (N - i.toNat)) (a' := ?_) #[true, true, true, true, true, true, true, true, true, false, false, false, false, false, false, false, false] rfl rfl (by kernel_rfl) (fun _ _ _ h => h) (Or.inl ⟨by kernel_rfl, fun w' => by go_simp⟩) ?_ ?_
          rotate_left
          · simp only [Act.put, List.setIfInBounds_toArray, List.set_cons_zero, List.set_cons_succ]
            rfl
          refine pure_ (i := 9) (N := some 28) (v := .slice (some aw) l0.length c0) (a' := ?_) #[true, true, true, true, true, true, true, true, true, true, false, false, false, false, false, false, false] rfl rfl (by kernel_rfl) (fun _ _ _ h => h) (Or.inl ⟨by kernel_rfl, fun w' => by go_simp⟩) ?_ ?_
          rotate_left
          · simp only [Act.put, List.setIfInBounds_toArray, List.set_cons_zero, List.set_cons_succ]
            rfl
          refine pure_ (i := 10) (N := some 29) (v := .int .u64 x) (a' := ?_) #[true, true, true, true, true, true, true, true, true, true, true, false, false, false, false, false, false] rfl rfl (by kernel_rfl) (fun _ _ _ h => h) (Or.inl ⟨by kernel_rfl, fun w' => by go_simp⟩) ?_ ?_
          rotate_left
          · simp only [Act.put, List.setIfInBounds_toArray, List.set_cons_zero, List.set_cons_succ]
            rfl
          refine pure_ (i := 11) (N := some 30) (v := .int .u64 x) (a' := ?_) #[true, true, true, true, true, true, true, true, true, true, true, true, false, false, false, false, false] rfl rfl (by kernel_rfl) (fun _ _ _ h => h) (Or.inl ⟨by kernel_rfl, fun w' => by go_simp⟩) ?_ ?_
          rotate_left
          · simp only [Act.put, List.setIfInBounds_toArray, List.set_cons_zero, List.set_cons_succ]
            rfl
          refine pure_ (i := 12) (N := some 31) (v := .int .u64 (x + 1)) (a' := ?_) #[true, true, true, true, true, true, true, true, true, true, true, true, true, false, false, false, false] rfl rfl (by kernel_rfl) (fun _ _ _ h => h) (Or.inl ⟨by kernel_rfl, fun w' => by go_simp⟩) ?_ ?_
          rotate_left
          · simp only [Act.put, List.setIfInBounds_toArray, List.set_cons_zero, List.set_cons_succ]
            rfl
          refine pure_ (i := 13) (N := some 32) (v := .slice (some A13) 1 c13) (a' := ?_) #[true, true, true, true, true, true, true, true, true, true, true, true, true, true, false, false, false] rfl rfl (by kernel_rfl) (fun _ _ _ h => h) (Or.inl ⟨by kernel_rfl, fun w' => by go_simp⟩) ?_ ?_
          rotate_left
          · simp only [Act.put, List.setIfInBounds_toArray, List.set_cons_zero, List.set_cons_succ]
            rfl
          refine one_ (i := 14) (N := some 33) #[true, true, true, true, true, true, true, true, true, true, true, true, true, true, true, false, false] rfl rfl (by kernel_rfl) (by decide) (fun K hK => ?_)
          refine step_unguard (by kernel_rfl) ?_
          refine step_copy_splice rfl (.tmp 27) (.tmp 32) 35 35 rfl 9 Try.underlying35 hszE (some ⟨w.heap.size, i.toNat, none⟩) (some A13) (N - i.toNat) (N - i.toNat) 1 c13 rfl rfl w.heap.size i.toNat (out.map Value.string ++ List.replicate (N - i.toNat) (Value.string ⟨#[]⟩)) 9 (blk_drew HBK.out) [Value.string (rdOf ByteArray.empty l0 x)] ?hl1 (fun _ => ⟨rfl, _, rfl, ?hsrc⟩) ?hfit (fun v hv => by rw [List.mem_singleton.mp hv]; rfl) w.heap.size w (below_drew1 HB.out) (Nat.le_refl _) ?_
          case hl1 => have := HN.out; have := HI.out; have := HK.out; show 1 = Nat.min 1 (N - i.toNat); rw [show ∀ a b, Nat.min a b = min a b from fun _ _ => rfl]; omega
          case hsrc =>
            intro j v hv
            have hj : j = 0 := by have := (List.getElem?_eq_some_iff.mp hv).1; simpa using this
            subst hj
            obtain rfl : Value.string (rdOf ByteArray.empty l0 x) = v := by simpa using hv
            rw [show A13.add 0 = A13 by simp [Addr.add], HA13.out]
            exact ((below_drew1 HB.out).cell (World.block_lt_of_cell? w _ hw0)).trans hw0
          case hfit => have := HN.out; have := HI.out; have := HK.out; simp only [List.length_append, List.length_map, List.length_replicate, List.length_cons, List.length_nil]; omega
          intro w4 hg4 hb4
          refine hK.out _ _ trivial (fun hHeld => ?_)
          clear hK K
          refine norm_ (a' := ?_) ?_ ?_
          rotate_left
          · show Act.put _ (some 33) _ = _
            simp only [Act.put, List.setIfInBounds_toArray, List.set_cons_zero, List.set_cons_succ]
            rfl
          refine pure_ (i := 15) (N := some 34) (v := .bool false) (a' := ?_) #[true, true, true, true, true, true, true, true, true, true, true, true, true, true, true, true, false] rfl rfl (by kernel_rfl) (fun _ _ _ h => h) (Or.inl ⟨by kernel_rfl, fun w' => by go_simp⟩) ?_ ?_
          rotate_left
          · simp only [Act.put, List.setIfInBounds_toArray, List.set_cons_zero, List.set_cons_succ]
            rfl
          refine pure_ (i := 16) (N := some 35) (v := .bool false) (a' := ?_) #[true, true, true, true, true, true, true, true, true, true, true, true, true, true, true, true, true] rfl rfl (by kernel_rfl) (fun _ _ _ h => h) (Or.inl ⟨by kernel_rfl, fun w' => by go_simp⟩) ?_ ?_
          rotate_left
          · simp only [Act.put, List.setIfInBounds_toArray, List.set_cons_zero, List.set_cons_succ]
            rfl
          refine done_ (by kernel_rfl) ?_
          have n0_ := Aside0.mk hg4
          have n1_ := Aside0.mk hb4
          clear HBK HB hg4 hb4
          have HBK := n0_
          have HB := n1_
          clear n0_ n1_
          try go_wp2
          go_roundg k1
          case measure => have := HK.out; omega
          case rel =>
            refine ⟨i + 1, out ++ [rdOf ByteArray.empty l0 x], (by first | rfl | (simp; done) | (simp [*]; done)), ⟨by have := HK.out; have := HI.out; rw [List.length_append]; simp only [List.length_cons, List.length_nil]; omega⟩, ⟨by rw [hi1]; exact H'.out⟩, ⟨Eq.trans HBK.out ?_⟩, HB⟩
            have hk := HK.out
            have hii := HI.out
            have hnn := HN.out
            congr 2
            unfold splice
            have e1 : (out.map Value.string).length = i.toNat := by rw [List.length_map]; omega
            rw [← e1, List.take_left, hi1, List.map_append, ← List.drop_drop, List.drop_left, e1]
            simp only [List.length_cons, List.length_nil, List.map_cons, List.map_nil, List.drop_replicate, List.append_assoc]
            rw [show N - i.toNat - (0 + 1) = N - (i.toNat + 1) by omega]
      · have hib : decide (i < (l1.length : Int)) = false := decide_eq_false hi
        have hk9 := HK.out
        have hG := HG.out
        rw [List.drop_eq_nil_of_le (by omega)] at hG
        have hG2 : some (out, true) = some (r1, r2) := hG
        simp only [Option.some.injEq, Prod.mk.injEq] at hG2
        obtain ⟨rfl, rfl⟩ := hG2
        have hn : N - i.toNat = 0 := by have := HN.out; omega
        have hNo : N = out.length := by have := HN.out; omega
        clear hG HG hi hk9
        go_wp2
        go_ret2
        refine ⟨_, rfl, Kd.R_of_own (enc := Value.string) (h1 := fun _ => rfl) ?_ (fun _ _ => trivial), HB.out⟩
        have hb9 := HBK.out
        rw [hn] at hb9
        simp only [List.replicate_zero, List.append_nil] at hb9
        have hb := LM.out.2.1
        have hNN := HN.out
        refine ⟨by simp [encs], .inr ⟨w.heap.size, N, _, by simp [← hNo], Nat.le_refl _, hb9, by simp [← hNo], by unfold maxLen; omega, by simp [hNo], by simp [encs, hNo, List.take_of_length_le]⟩⟩
def bonsairef04_Same.l0 : Nat → List ByteArray → List ByteArray → Int → Option (Bool)
  | 0, _, _, _ => none
  | k + 1, x0, x1, x5 => if x5 < (x0.length : Int) then (if 0 ≤ x5 then (if x5 < (x1.length : Int) then (if (rdOf ByteArray.empty x0 x5).toList = (rdOf ByteArray.empty x1 x5).toList then (bonsairef04_Same.l0 k x0 x1 (wrap64 (x5 + 1))) else (some false)) else (none)) else (none)) else (some true)
def bonsairef04_Same.f (k : Nat) (l0 : List ByteArray) (l1 : List ByteArray) : Option (Bool) := if (l0.length : Int) = (l1.length : Int) then (bonsairef04_Same.l0 k l0 l1 0) else (some false)
theorem bonsairef04_Same.mono_l : ∀ k, (∀ y0 y1 y2, LeO (bonsairef04_Same.l0 k y0 y1 y2) (bonsairef04_Same.l0 (k + 1) y0 y1 y2))
  | 0 => fun _ _ _ r h => by simp [bonsairef04_Same.l0] at h
  | k + 1 => by
    have ih0 := bonsairef04_Same.mono_l k
    · intro y0 y1 y2
      unfold bonsairef04_Same.l0
      repeat' first
      | (with_reducible exact ih0 _ _ _)
      | (with_reducible exact LeO.refl _)
      | (with_reducible exact LeO.none _)
      | (with_reducible refine LeO.ite ?_ ?_)
      | (with_reducible refine LeO.bind ?_ (fun _ => ?_))
      | exact ih0 _ _ _
      | exact LeO.none _
      | refine LeO.ite ?_ ?_
      | refine LeO.bind ?_ (fun _ => ?_)
theorem bonsairef04_Same.mono : ∀ a0 a1 k, LeO (bonsairef04_Same.f k a0 a1) (bonsairef04_Same.f (k + 1) a0 a1) := by
  intro a0 a1 k
  have ih0 := bonsairef04_Same.mono_l k
  unfold bonsairef04_Same.f
  repeat' first
      | (with_reducible exact ih0 _ _ _)
      | (with_reducible exact LeO.refl _)
      | (with_reducible exact LeO.none _)
      | (with_reducible refine LeO.ite ?_ ?_)
      | (with_reducible refine LeO.bind ?_ (fun _ => ?_))
      | exact ih0 _ _ _
      | exact LeO.none _
      | refine LeO.ite ?_ ?_
      | refine LeO.bind ?_ (fun _ => ?_)
set_option maxHeartbeats 8000000 in
set_option maxRecDepth 100000 in
theorem bonsairef04_Same.calls (k : Nat) (A0 : Option Addr) (c0 : Nat) (l0 : List ByteArray) (A1 : Option Addr) (c1 : Nat) (l1 : List ByteArray) (r : Bool) (w : World) (hr0 : Kd.C Kd.string w A0 l0.length l0) (hc0 : l0.length ≤ c0) (hr1 : Kd.C Kd.string w A1 l1.length l1) (hc1 : l1.length ≤ c1) (h : bonsairef04_Same.f k l0 l1 = some r) :
    Calls Try.prog 69 #[.slice A0 l0.length c0, .slice A1 l1.length c1] w fun e w' => e = .returned (.bool r) ∧ Drawn0 w w' := by
  have HR0 := Aside0.mk hr0
  have HC0 := Aside0.mk hc0
  clear hr0 hc0
  have HR1 := Aside0.mk hr1
  have HC1 := Aside0.mk hc1
  clear hr1 hc1
  have H : (if (l0.length : Int) = (l1.length : Int) then (bonsairef04_Same.l0 k l0 l1 0) else (some false)) = some r := h
  clear h
  by_cases c3 : (l0.length : Int) = (l1.length : Int)
  · rw [if_pos c3] at H
    have c3b0 : ((l0.length : Int) == (l1.length : Int)) = true := beq_iff_eq.mpr c3
    have c3b1 : ((l0.length : Int) != (l1.length : Int)) = false := bne_eq_false_iff_eq.mpr c3
    have c3b2 : (l0.length == l1.length) = true := by first | simpa using c3 | (simp at c3 ⊢; omega)
    clear c3
    have H' := Aside0.mk H
    clear H
    go_enter Try.func69, Try.ntmps69
    go_wp2
    repeat (go_quiet (fail); try go_wp2)
    go_loopg [5] k (fun kq v5 w' => ∃ (x5_1 : Int), v5 = .int .i64 x5_1 ∧ Aside0 (bonsairef04_Same.l0 kq l0 l1 x5_1 = some r) ∧ Aside0 (kq ≤ k) ∧ Drawn0 w w')
    case atStart => exact ⟨(0), (by first | rfl | (simp; done) | (simp [*]; done)), H', ⟨Nat.le_refl _⟩, by repeat (first | exact Drawn0.refl _ | apply Drawn0.step)⟩
    case round =>
      clear H'
      try clear c1
      try clear p2
      try clear c3
      try clear c3b0
      try clear c3b1
      try clear c3b2
      obtain ⟨x5_1, rfl, HA, HK1, ⟨m1, rfl⟩⟩ := hrel
      cases gk with
      | zero => exact absurd HA.out (by simp [bonsairef04_Same.l0])
      | succ k1 =>
        have H := HA.out
        clear HA
        simp only [bonsairef04_Same.l0] at H
        by_cases c4 : x5_1 < (l0.length : Int)
        · rw [if_pos c4] at H
          have c4b0 : decide (x5_1 < (l0.length : Int)) = true := decide_eq_true c4
          clear c4
          by_cases c5 : 0 ≤ x5_1
          · rw [if_pos c5] at H
            have c5b0 : decide (0 ≤ x5_1) = true := decide_eq_true c5
            clear c5
            by_cases c6 : x5_1 < (l1.length : Int)
            · rw [if_pos c6] at H
              have c6b0 : decide (x5_1 < (l1.length : Int)) = true := decide_eq_true c6
              clear c6
              by_cases c7 : (rdOf ByteArray.empty l0 x5_1).toList = (rdOf ByteArray.empty l1 x5_1).toList
              · rw [if_pos c7] at H
                have c7b0 : ((rdOf ByteArray.empty l0 x5_1).toList == (rdOf ByteArray.empty l1 x5_1).toList) = true := beq_iff_eq.mpr c7
                have c7b1 : ((rdOf ByteArray.empty l0 x5_1).toList != (rdOf ByteArray.empty l1 x5_1).toList) = false := bne_eq_false_iff_eq.mpr c7
                clear c7
                have H' := Aside0.mk H
                clear H
                have p779 : 0 ≤ (x5_1 : Int) := of_decide_eq_true (by first | (with_reducible assumption) | assumption)
                have q779 : x5_1 < (l0.length : Int) := of_decide_eq_true (by first | (with_reducible assumption) | assumption)
                obtain ⟨ad779, e779, hx779_0⟩ := Kd.at_string HR0.out x5_1 p779 q779
                cases e779
                replace p779 := eq_true p779
                replace q779 := eq_true q779
                have p780 : 0 ≤ (x5_1 : Int) := of_decide_eq_true (by first | (with_reducible assumption) | assumption)
                have q780 : x5_1 < (l1.length : Int) := of_decide_eq_true (by first | (with_reducible assumption) | assumption)
                obtain ⟨ad780, e780, hx780_0⟩ := Kd.at_string HR1.out x5_1 p780 q780
                cases e780
                replace p780 := eq_true p780
                replace q780 := eq_true q780
                go_wp2
                repeat (go_quiet (fail); try go_wp2)
                go_roundg k1
                case measure => have := HK1.out; omega
                case rel => exact ⟨(wrap64 (x5_1 + 1)), (by first | rfl | (simp; done) | (simp [*]; done)), H', ⟨by have := HK1.out; omega⟩, by repeat (first | exact Drawn0.refl _ | apply Drawn0.step)⟩
              · rw [if_neg c7] at H
                have c7b0 : ((rdOf ByteArray.empty l0 x5_1).toList == (rdOf ByteArray.empty l1 x5_1).toList) = false := beq_eq_false_iff_ne.mpr c7
                have c7b1 : ((rdOf ByteArray.empty l0 x5_1).toList != (rdOf ByteArray.empty l1 x5_1).toList) = true := bne_iff_ne.mpr c7
                obtain rfl := Option.some.inj H
                have p779 : 0 ≤ (x5_1 : Int) := of_decide_eq_true (by first | (with_reducible assumption) | assumption)
                have q779 : x5_1 < (l0.length : Int) := of_decide_eq_true (by first | (with_reducible assumption) | assumption)
                obtain ⟨ad779, e779, hx779_0⟩ := Kd.at_string HR0.out x5_1 p779 q779
                cases e779
                replace p779 := eq_true p779
                replace q779 := eq_true q779
                have p780 : 0 ≤ (x5_1 : Int) := of_decide_eq_true (by first | (with_reducible assumption) | assumption)
                have q780 : x5_1 < (l1.length : Int) := of_decide_eq_true (by first | (with_reducible assumption) | assumption)
                obtain ⟨ad780, e780, hx780_0⟩ := Kd.at_string HR1.out x5_1 p780 q780
                cases e780
                replace p780 := eq_true p780
                replace q780 := eq_true q780
                go_wp2
                repeat (go_quiet (fail); try go_wp2)
                go_ret
                exact ⟨by first | rfl | (simp; done) | (simp [*]; done), by repeat (first | exact Drawn0.refl _ | apply Drawn0.step)⟩
            · rw [if_neg c6] at H
              exact absurd H (by simp)
          · rw [if_neg c5] at H
            exact absurd H (by simp)
        · rw [if_neg c4] at H
          have c4b0 : decide (x5_1 < (l0.length : Int)) = false := decide_eq_false c4
          clear c4
          obtain rfl := Option.some.inj H
          go_wp2
          repeat (go_quiet (fail); try go_wp2)
          go_ret
          exact ⟨by first | rfl | (simp; done) | (simp [*]; done), by repeat (first | exact Drawn0.refl _ | apply Drawn0.step)⟩
  · rw [if_neg c3] at H
    have c3b0 : ((l0.length : Int) == (l1.length : Int)) = false := beq_eq_false_iff_ne.mpr c3
    have c3b1 : ((l0.length : Int) != (l1.length : Int)) = true := bne_iff_ne.mpr c3
    have c3b2 : (l0.length == l1.length) = false := by first | simpa using c3 | (simp at c3 ⊢; omega)
    obtain rfl := Option.some.inj H
    go_enter Try.func69, Try.ntmps69
    go_wp2
    repeat (go_quiet (fail); try go_wp2)
    go_ret
    exact ⟨by first | rfl | (simp; done) | (simp [*]; done), by repeat (first | exact Drawn0.refl _ | apply Drawn0.step)⟩
def dict_Encode.g (k : Nat) : List ByteArray → ByteArray → Option ByteArray
  | [], acc => some acc
  | x :: xs, acc => (word_Put.f k x).bind fun a => if acc.size + a.size ≤ 140737488355328 then dict_Encode.g k xs (acc ++ a) else none
def dict_Encode.f (k : Nat) (l0 : List ByteArray) : Option ByteArray := (dict_Words.f l0).bind fun p => if p.1.length < 4611686018427387904 then (pack_Put.f k (IntKind.u64.wrap (p.1.length : Int))).bind fun a => if a.size ≤ 140737488355328 then (dict_Encode.g k p.1 a).bind fun acc => (runs_Encode.f k p.2).bind fun e => if acc.size + e.size ≤ 140737488355328 then some (acc ++ e) else none else none else none
theorem dict_Encode.mono : ∀ a0 k, LeO (dict_Encode.f k a0) (dict_Encode.f (k + 1) a0) := by
  have hg : ∀ (k : Nat) (l : List ByteArray) (acc : ByteArray), LeO (dict_Encode.g k l acc) (dict_Encode.g (k + 1) l acc) := by
    intro k l
    induction l with
    | nil => intro acc; exact LeO.refl _
    | cons x xs ih =>
      intro acc
      unfold dict_Encode.g
      refine LeO.bind (word_Put.mono _ _) fun a => LeO.ite (ih _) (LeO.refl _)
  intro a0 k
  exact LeO.bind (LeO.refl _) fun p => LeO.ite (LeO.bind (pack_Put.mono _ _) fun a => LeO.ite (LeO.bind (hg k _ _) fun acc => LeO.bind (runs_Encode.mono _ _) fun e => LeO.refl _) (LeO.refl _)) (LeO.refl _)
set_option maxHeartbeats 8000000 in
set_option maxRecDepth 100000 in
theorem dict_Encode.calls (k : Nat) (A0 : Option Addr) (c0 : Nat) (l0 : List ByteArray) (r : ByteArray) (w : World) (hr0 : Kd.C Kd.string w A0 l0.length l0) (hc0 : l0.length ≤ c0) (h : dict_Encode.f k l0 = some r) :
    Calls Try.prog 70 #[.slice A0 l0.length c0] w fun e w' => e = .returned (.string r) ∧ Below w.heap.size w w' := by
  have H := h
  clear h
  unfold dict_Encode.f at H
  obtain ⟨⟨t, q⟩, A20, H⟩ := Option.bind_eq_some_iff.mp H
  have A2 := Aside0.mk A20
  by_cases hlen : t.length < 4611686018427387904
  case neg => rw [if_neg hlen] at H; exact absurd H (by simp)
  rw [if_pos hlen] at H
  obtain ⟨a, A30, H⟩ := Option.bind_eq_some_iff.mp H
  have A3 := Aside0.mk A30
  by_cases haz : a.size ≤ 140737488355328
  case neg => rw [if_neg haz] at H; exact absurd H (by simp)
  rw [if_pos haz] at H
  obtain ⟨acc0, A40, H⟩ := Option.bind_eq_some_iff.mp H
  obtain ⟨en, A50, H⟩ := Option.bind_eq_some_iff.mp H
  by_cases hez : acc0.size + en.size ≤ 140737488355328
  case neg => rw [if_neg hez] at H; exact absurd H (by simp)
  rw [if_pos hez] at H
  obtain rfl := Option.some.inj H
  have A4 := Aside0.mk A40
  have A5 := Aside0.mk A50
  have LM := Aside0.mk hlen
  have LA := Aside0.mk haz
  have LE := Aside0.mk hez
  have HR0 := Aside0.mk hr0
  have HC0 := Aside0.mk hc0
  clear A20 A30 A40 A50 H hr0 hc0 hlen haz hez
  go_enter Try.func70, Try.ntmps70
  go_wp2_with (first | (go_at_call 65; (with_reducible refine (dict_Words.calls _ _ l0 t q _ HR0.out HC0.out A2.out).mono ?_); rintro e w3 ⟨v0, v1, rfl, ho0, ho1, hb⟩; obtain ⟨Ao4, co4, eo4⟩ := Kd.R_slice ho0; obtain ⟨Ao5, co5, eo5⟩ := Kd.R_slice ho1; subst eo4; subst eo5; have HO := Aside0.mk ho0; have HQ := Aside0.mk ho1; have HB := Aside0.mk hb; clear ho0 ho1 hb) | (go_at_call 78; (with_reducible refine (pack_Put.calls k _ a _ A3.out).mono ?_); rintro e w5 ⟨rfl, hb⟩; have HBl := Aside0.mk ((Build.Bld.fresh w3).below hb); have n0_ := Aside0.mk (Kd.R_below (Kd.R_alloc HO.out _) hb); have n1_ := Aside0.mk (Kd.R_below (Kd.R_alloc HQ.out _) hb); have n2_ := Aside0.mk (below_step (below_alloc HB.out _) hb); have HGE := Aside0.mk (below_size HB.out); have HGS := Aside0.mk (show w3.heap.size ≤ w5.heap.size from Nat.le_trans (by show _ ≤ (w3.heap.push _).size; simp) hb.size); clear HO HQ HB hb; have HO := n0_; have HQ := n1_; have HB := n2_; clear n0_ n1_ n2_) | (go_at_call 90; (with_reducible refine (Build.write w3.heap.size w3.heap.size ByteArray.empty a _ HBl.out (by have := LA.out; have h_ : ByteArray.empty.size = 0 := rfl; omega) HGS.out).mono ?_); rintro e w6 ⟨rfl, hbl, hb, hk⟩; have n0_ := Aside0.mk (Build.R_kept HO.out hk HBl.out.block (by decide)); have n1_ := Aside0.mk (Build.R_kept HQ.out hk HBl.out.block (by decide)); have n2_ := Aside0.mk (below_weaken HB.out HGE.out hb); have n3_ := Aside0.mk (Nat.le_trans HGS.out hb.size); clear HBl HO HQ HB HGS hb hk; have HBl := Aside0.mk hbl; have HO := n0_; have HQ := n1_; have HB := n2_; have HGS := n3_; clear n0_ n1_ n2_ n3_ hbl))
  generalize hbm : w3.heap.size = bm at HBl HGE HGS ⊢
  clear hbm
  have HE := Aside0.mk (show ByteArray.empty ++ a = a by apply ByteArray.ext; simp)
  go_loopg [20] (t.length + 1) (fun kq v9 w' => ∃ (x9 : Int) (acc : ByteArray), v9 = .int .i64 x9 ∧ Aside0 (0 ≤ x9 ∧ x9 ≤ t.length ∧ (kq : Int) + x9 = t.length + 1) ∧ Aside0 (dict_Encode.g k (t.drop x9.toNat) acc = some acc0) ∧ Aside0 (Build.Bld bm bm acc w') ∧ Aside0 (Kd.R Kd.string 9 w' w.heap.size (fun _ => True) (.slice Ao4 t.length co4) t) ∧ Aside0 (Kd.R (Kd.int .u64) 51 w' w.heap.size (fun _ => True) (.slice Ao5 q.length co5) q) ∧ Aside0 (Below w.heap.size w w') ∧ Aside0 (bm ≤ w'.heap.size))
  case atStart => exact ⟨0, a, by simp, ⟨by omega⟩, A4, ⟨by rw [← HE.out]; exact HBl.out⟩, HO, HQ, HB, HGS⟩
  case round =>
    clear HO HQ HB HBl HGS
    obtain ⟨x9, acc, rfl, HK, HG, HBl, HO, HQ, HB, HGS⟩ := hrel
    cases gk with
    | zero => have := HK.out; exact absurd this (by omega)
    | succ k1 =>
      by_cases hi : x9 < (t.length : Int)
      · have c5b0 : decide (x9 < (t.length : Int)) = true := decide_eq_true (by omega)
        have hk9 := HK.out
        have hdrop : t.drop x9.toNat = rdOf ByteArray.empty t x9 :: t.drop (x9.toNat + 1) := by
          rw [List.drop_eq_getElem_cons (show x9.toNat < t.length by omega)]
          congr 1
          unfold rdOf
          simp [List.getD_eq_getElem?_getD, show x9.toNat < t.length by omega]
        have hG := HG.out
        clear HG
        rw [hdrop] at hG
        unfold dict_Encode.g at hG
        obtain ⟨b, A60, hG⟩ := Option.bind_eq_some_iff.mp hG
        by_cases hz : acc.size + b.size ≤ 140737488355328
        · rw [if_pos hz] at hG
          have H' := Aside0.mk hG
          have A6 := Aside0.mk A60
          have LZ := Aside0.mk hz
          clear hG A60 hdrop hz
          have p290 : 0 ≤ x9 := by omega
          have q290 : x9 < (t.length : Int) := by omega
          obtain ⟨ad290, e290, hx290_0⟩ := Kd.at_string (Kd.R_reads' HO.out).2.2 x9 p290 q290
          cases e290
          have hi0 := Aside0.mk hi
          clear hi hk9
          replace p290 := eq_true p290
          replace q290 := eq_true q290
          go_wp2_with (first | (go_at_call 33; (with_reducible refine (word_Put.calls k _ b _ A6.out).mono ?_); rintro e w5 ⟨rfl, hb⟩; have n0_ := Aside0.mk (HBl.out.below hb); have n1_ := Aside0.mk (Kd.R_below HO.out hb); have n2_ := Aside0.mk (Kd.R_below HQ.out hb); have n3_ := Aside0.mk (below_step HB.out hb); have n4_ := Aside0.mk (Nat.le_trans HGS.out hb.size); clear HBl HO HQ HB HGS hb hx290_0; have HBl := n0_; have HO := n1_; have HQ := n2_; have HB := n3_; have HGS := n4_; clear n0_ n1_ n2_ n3_ n4_) | (go_at_call 90; (with_reducible refine (Build.write bm bm acc b _ HBl.out LZ.out HGS.out).mono ?_); rintro e w6 ⟨rfl, hbl, hb, hk⟩; have n0_ := Aside0.mk (Build.R_kept HO.out hk HBl.out.block (by decide)); have n1_ := Aside0.mk (Build.R_kept HQ.out hk HBl.out.block (by decide)); have n2_ := Aside0.mk (below_weaken HB.out HGE.out hb); have n3_ := Aside0.mk (Nat.le_trans HGS.out hb.size); clear HBl HO HQ HB HGS hb hk; have HBl := Aside0.mk hbl; have HO := n0_; have HQ := n1_; have HB := n2_; have HGS := n3_; clear n0_ n1_ n2_ n3_ hbl))
          go_roundg k1
          case measure => have := HK.out; omega
          case rel => exact ⟨wrap64 (x9 + 1), acc ++ b, (by first | rfl | (simp; done) | (simp [*]; done)), ⟨by have := HK.out; have := hi0.out; have := LM.out; unfold wrap64; omega⟩, ⟨by rw [show (wrap64 (x9 + 1)).toNat = x9.toNat + 1 by have := HK.out; have := LM.out; unfold wrap64; omega]; exact H'.out⟩, HBl, HO, HQ, HB, HGS⟩
        · rw [if_neg hz] at hG
          exact absurd hG (by simp)
      · have c5b0 : decide (x9 < (t.length : Int)) = false := decide_eq_false hi
        have hk9 := HK.out
        have hG := HG.out
        rw [List.drop_eq_nil_of_le (by omega)] at hG
        unfold dict_Encode.g at hG
        obtain rfl := Option.some.inj hG
        clear hG HG hi hk9
        go_wp2_with (first | (go_at_call 44; (with_reducible refine (runs_Encode.calls k _ _ q en _ (Kd.R_reads' HQ.out).2.2 (Kd.R_reads' HQ.out).2.1 A5.out).mono ?_); rintro e w5 ⟨rfl, hb⟩; have n0_ := Aside0.mk (HBl.out.below hb); have n3_ := Aside0.mk (below_step HB.out hb); have n4_ := Aside0.mk (Nat.le_trans HGS.out hb.size); clear HBl HO HQ HB HGS hb; have HBl := n0_; have HB := n3_; have HGS := n4_; clear n0_ n3_ n4_) | (go_at_call 90; (with_reducible refine (Build.write bm bm acc en _ HBl.out LE.out HGS.out).mono ?_); rintro e w6 ⟨rfl, hbl, hb, hk⟩; have n2_ := Aside0.mk (below_weaken HB.out HGE.out hb); have n3_ := Aside0.mk (Nat.le_trans HGS.out hb.size); clear HBl HB HGS hb hk; have HBl := Aside0.mk hbl; have HB := n2_; have HGS := n3_; clear n2_ n3_ hbl) | (go_at_call 91; (with_reducible refine (Build.string bm bm (acc ++ en) _ HBl.out HGS.out).mono ?_); rintro e w9 ⟨rfl, hb, hk⟩; have n2_ := Aside0.mk (below_weaken HB.out HGE.out hb); clear HB; have HB := n2_; clear n2_))
        go_ret
        exact ⟨rfl, HB.out⟩
end Go.Proofs.Ytbgjoiccehiglaa.Print
end
