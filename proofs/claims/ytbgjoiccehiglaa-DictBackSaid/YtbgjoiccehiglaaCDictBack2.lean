/- Part 2 of what DictBack stands on: merged by a program of this session out of its texts. -/
import Derived.Test.YtbgjoiccehiglaaCDictBack1
section
namespace Go.Proofs.Ytbgjoiccehiglaa.Print
open Go.RowKit Go.Proofs.YtbgjoiccehiglaaW.PrintWords Go.Proofs.YtbgjoiccehiglaaW.PrintLast Go.Proofs.YtbgjoiccehiglaaW.PrintMore
attribute [local go_sem] max2_int min2_int max_two min_two max_three min_three max_four min_four
set_option linter.unusedVariables false
set_option linter.unusedSimpArgs false
attribute [local go_sem high] eqA53
mutual
def runs_Spread.j0 : Nat → List (S53) → Int → Bool → Option (List Int × Bool)
  | 0, _, _, _ => none
  | k + 1, x0, x1, x15 => if x15 = true then (some (([] : List Int), false)) else (runs_Spread.l0 k x1 ([] : List Int) x0 (x0.length : Int) 0)
def runs_Spread.l0 : Nat → Int → List Int → List (S53) → Int → Int → Option (List Int × Bool)
  | 0, _, _, _, _, _ => none
  | k + 1, x1, x6, x16, x17, x18 => if x18 < x17 then (if 0 ≤ x18 then (if x18 < (x16.length : Int) then (if ((rd_T53 x16 x18).f1) > (wrap64 (x1 - (x6.length : Int))) then (some (([] : List Int), false)) else ((slices_Repeat_uint64_uint64.f (([(rd_T53 x16 x18).f0] : List Int)) ((rd_T53 x16 x18).f1)).bind fun t275 => (if x6.length + t275.length < 17592186044416 then (runs_Spread.l0 k x1 (x6 ++ t275) x16 x17 (wrap64 (x18 + 1))) else (none)))) else (none)) else (none)) else (some (x6, true))
end
def runs_Spread.f (k : Nat) (l0 : List (S53)) (a1 : Int) : Option (List Int × Bool) := (runs_May.f k l0).bind fun t269 => (if t269 = true then (runs_Spread.j0 k l0 a1 (decide (a1 < 0))) else (runs_Spread.j0 k l0 a1 true))
theorem runs_Spread.mono_l : ∀ k, (∀ y0 y1 y2, LeO (runs_Spread.j0 k y0 y1 y2) (runs_Spread.j0 (k + 1) y0 y1 y2)) ∧ (∀ y0 y1 y2 y3 y4, LeO (runs_Spread.l0 k y0 y1 y2 y3 y4) (runs_Spread.l0 (k + 1) y0 y1 y2 y3 y4))
  | 0 => ⟨fun _ _ _ r h => by simp [runs_Spread.j0] at h, fun _ _ _ _ _ r h => by simp [runs_Spread.l0] at h⟩
  | k + 1 => by
    obtain ⟨ih0, ih1⟩ := runs_Spread.mono_l k
    refine ⟨?_, ?_⟩
    · intro y0 y1 y2
      unfold runs_Spread.j0
      repeat' first
      | (with_reducible exact ih0 _ _ _)
      | (with_reducible exact ih1 _ _ _ _ _)
      | (with_reducible exact runs_May.mono _ _)
      | (with_reducible exact LeO.refl _)
      | (with_reducible exact LeO.none _)
      | (with_reducible refine LeO.ite ?_ ?_)
      | (with_reducible refine LeO.bind ?_ (fun _ => ?_))
      | exact ih0 _ _ _
      | exact ih1 _ _ _ _ _
      | exact runs_May.mono _ _
      | exact LeO.none _
      | refine LeO.ite ?_ ?_
      | refine LeO.bind ?_ (fun _ => ?_)
    · intro y0 y1 y2 y3 y4
      unfold runs_Spread.l0
      repeat' first
      | (with_reducible exact ih0 _ _ _)
      | (with_reducible exact ih1 _ _ _ _ _)
      | (with_reducible exact runs_May.mono _ _)
      | (with_reducible exact LeO.refl _)
      | (with_reducible exact LeO.none _)
      | (with_reducible refine LeO.ite ?_ ?_)
      | (with_reducible refine LeO.bind ?_ (fun _ => ?_))
      | exact ih0 _ _ _
      | exact ih1 _ _ _ _ _
      | exact runs_May.mono _ _
      | exact LeO.none _
      | refine LeO.ite ?_ ?_
      | refine LeO.bind ?_ (fun _ => ?_)
theorem runs_Spread.mono : ∀ a0 a1 k, LeO (runs_Spread.f k a0 a1) (runs_Spread.f (k + 1) a0 a1) := by
  intro a0 a1 k
  obtain ⟨ih0, ih1⟩ := runs_Spread.mono_l k
  unfold runs_Spread.f
  repeat' first
      | (with_reducible exact ih0 _ _ _)
      | (with_reducible exact ih1 _ _ _ _ _)
      | (with_reducible exact runs_May.mono _ _)
      | (with_reducible exact LeO.refl _)
      | (with_reducible exact LeO.none _)
      | (with_reducible refine LeO.ite ?_ ?_)
      | (with_reducible refine LeO.bind ?_ (fun _ => ?_))
      | exact ih0 _ _ _
      | exact ih1 _ _ _ _ _
      | exact runs_May.mono _ _
      | exact LeO.none _
      | refine LeO.ite ?_ ?_
      | refine LeO.bind ?_ (fun _ => ?_)
set_option maxHeartbeats 8000000 in
set_option maxRecDepth 100000 in
theorem runs_Spread.calls (k : Nat) (A0 : Option Addr) (c0 : Nat) (l0 : List (S53)) (a1 : Int) (r1 : List Int) (r2 : Bool) (w : World) (hr0 : Kd.C k53 w A0 l0.length l0) (hc0 : l0.length ≤ c0) (h : runs_Spread.f k l0 a1 = some (r1, r2)) :
    Calls Try.prog 39 #[.slice A0 l0.length c0, .int .i64 a1] w fun e w' => ∃ v0_ : Value, e = .returned (.tuple #[v0_, .bool r2]) ∧ Kd.R (Kd.int .u64) 51 w' w.heap.size (fun _ => True) v0_ r1 ∧ Below w.heap.size w w' := by
  have hu53 := Try.underlying53
  have HR0 := Aside0.mk hr0
  have HC0 := Aside0.mk hc0
  clear hr0 hc0
  have HB := Aside0.mk (Below.refl w.heap.size w)
  have H : ((runs_May.f k l0).bind fun t269 => (if t269 = true then (runs_Spread.j0 k l0 a1 (decide (a1 < 0))) else (runs_Spread.j0 k l0 a1 true))) = some (r1, r2) := h
  clear h
  have HC3 := Aside0.mk H
  clear H
  go_enter Try.func39, Try.ntmps39
  go_upto_region 1 with (fail)
  go_cut [15] (fun v15 wc => ∃ (kq : Nat) (x15_2 : Bool), v15 = .bool x15_2 ∧ Aside0 (runs_Spread.j0 kq l0 a1 x15_2 = some (r1, r2)) ∧ Aside0 (kq ≤ k) ∧ Aside0 (Below w.heap.size w wc))
  case first =>
    have H := HC3.out
    clear HC3
    replace H := Option.bind_eq_some_iff.mp H
    obtain ⟨t269, A40, H⟩ := H
    replace H : (if t269 = true then (runs_Spread.j0 k l0 a1 (decide (a1 < 0))) else (runs_Spread.j0 k l0 a1 true)) = some (r1, r2) := H
    have A4 := Aside0.mk A40
    clear A40
    by_cases c5 : t269 = true
    · subst c5
      have H1 : (runs_Spread.j0 k l0 a1 (decide (a1 < 0))) = some (r1, r2) := by rw [if_pos rfl] at H; exact H
      clear H
      have H := H1
      clear H1
      have H' := Aside0.mk H
      clear H
      go_wp2_with (first | ((with_reducible refine gate_callee (f := 46) rfl ?_); refine goesL_ (some 10) rfl rfl Try.func46 (by kernel_rfl) rfl #[.slice A0 l0.length c0] rfl (by (try simp only [List.map_toArray, List.map_cons, List.map_nil]); first | done | rfl | (simp only [List.length_drop, List.length_take]; rfl)) ?_; (with_reducible refine (runs_May.calls k _ _ l0 true _ ?side1 ?side2 A4.out).mono ?_); (case side1 => repeat (first | exact (Kd.C_below HR0.out HB.out) | (with_reducible refine Kd.C_alloc ?_ _) | (with_reducible refine Kd.C_drewN ?_ _) | (with_reducible refine Kd.C_drew ?_))); (case side2 => exact HC0.out); rintro e w6 ⟨rfl, hb⟩; refine ⟨_, rfl, ?_⟩; have n0_ := Aside0.mk (below_step (by repeat (first | (with_reducible first | exact HB.out | apply below_alloc | apply pw_below_drewN | apply below_drew1) | exact HB.out)) hb); clear HB; have HB := n0_; clear n0_; (try clear hb); (try clear hb2); (try clear hk); (try clear hi)))
      go_meet
      case rel => exact ⟨_, (decide (a1 < 0)), (by first | rfl | (simp; done) | (simp [*]; done)), H', ⟨by first | omega | exact Nat.le_refl _⟩, ⟨by repeat (first | (with_reducible first | exact HB.out | apply below_alloc | apply pw_below_drewN | apply below_drew1) | exact HB.out)⟩⟩
    · replace c5 := Bool.eq_false_iff.mpr c5
      subst c5
      have H1 : (runs_Spread.j0 k l0 a1 true) = some (r1, r2) := by rw [if_neg (show ¬ (false = true) by decide)] at H; exact H
      clear H
      have H := H1
      clear H1
      have H' := Aside0.mk H
      clear H
      go_wp2_with (first | ((with_reducible refine gate_callee (f := 46) rfl ?_); refine goesL_ (some 10) rfl rfl Try.func46 (by kernel_rfl) rfl #[.slice A0 l0.length c0] rfl (by (try simp only [List.map_toArray, List.map_cons, List.map_nil]); first | done | rfl | (simp only [List.length_drop, List.length_take]; rfl)) ?_; (with_reducible refine (runs_May.calls k _ _ l0 false _ ?side1 ?side2 A4.out).mono ?_); (case side1 => repeat (first | exact (Kd.C_below HR0.out HB.out) | (with_reducible refine Kd.C_alloc ?_ _) | (with_reducible refine Kd.C_drewN ?_ _) | (with_reducible refine Kd.C_drew ?_))); (case side2 => exact HC0.out); rintro e w7 ⟨rfl, hb⟩; refine ⟨_, rfl, ?_⟩; have n0_ := Aside0.mk (below_step (by repeat (first | (with_reducible first | exact HB.out | apply below_alloc | apply pw_below_drewN | apply below_drew1) | exact HB.out)) hb); clear HB; have HB := n0_; clear n0_; (try clear hb); (try clear hb2); (try clear hk); (try clear hi)))
      go_meet
      case rel => exact ⟨_, (true), (by first | rfl | (simp; done) | (simp [*]; done)), H', ⟨by first | omega | exact Nat.le_refl _⟩, ⟨by repeat (first | (with_reducible first | exact HB.out | apply below_alloc | apply pw_below_drewN | apply below_drew1) | exact HB.out)⟩⟩
  case rest =>
    clear HC3
    try clear p2
    try clear c3
    try clear c4
    try clear c5
    obtain ⟨kq, x15_2, rfl, HA, HJ2, HB⟩ := hcut
    cases kq with
    | zero => exact absurd HA.out (by simp [runs_Spread.j0])
    | succ kj2 =>
      have H := HA.out
      clear HA
      simp only [runs_Spread.j0] at H
      by_cases c8 : x15_2 = true
      · subst c8
        have H1 : (some (([] : List Int), false)) = some (r1, r2) := by rw [if_pos rfl] at H; exact H
        clear H
        have H := H1
        clear H1
        simp only [Option.some.injEq, Prod.mk.injEq] at H
        obtain ⟨rfl, rfl⟩ := H
        go_wp2
        go_ret2
        exact ⟨_, by first | rfl | (simp [errW_none, errW_some] <;> rfl) | (simp [*, errW_none, errW_some] <;> rfl), by first | exact Kd.R_nil _ _ _ _ _ | exact Kd.N_nil _ _ _ _ _ | exact Kd.V_nil _ _ _ _ _ | exact Kd.Q_nil _ _ _ _ _ | exact Kd.S_nil _ _ _ _ _, by repeat (first | (with_reducible first | exact HB.out | apply below_alloc | apply pw_below_drewN | apply below_drew1) | exact HB.out)⟩
      · replace c8 := Bool.eq_false_iff.mpr c8
        subst c8
        have H1 : (runs_Spread.l0 kj2 a1 ([] : List Int) l0 (l0.length : Int) 0) = some (r1, r2) := by rw [if_neg (show ¬ (false = true) by decide)] at H; exact H
        clear H
        have H := H1
        clear H1
        have H' := Aside0.mk H
        clear H
        go_wp2
        go_loopg [6, 18] kj2 (fun kq v6 v18 w' => ∃ (x6_2 : List Int) (x18_2 : Int), v18 = .int .i64 x18_2 ∧ Aside0 (runs_Spread.l0 kq a1 x6_2 l0 (l0.length : Int) x18_2 = some (r1, r2)) ∧ Aside0 (kq ≤ kj2) ∧ Aside0 (Kd.R (Kd.int .u64) 51 w' w.heap.size (fun _ => True) v6 x6_2) ∧ Aside0 (Below w.heap.size w w'))
        case atStart => exact ⟨(([] : List Int)), (0), (by first | rfl | (simp; done) | (simp [*]; done)), H', ⟨Nat.le_refl _⟩, ⟨by first | exact Kd.R_nil _ _ _ _ _ | exact Kd.N_nil _ _ _ _ _ | exact Kd.V_nil _ _ _ _ _ | exact Kd.Q_nil _ _ _ _ _ | exact Kd.S_nil _ _ _ _ _⟩, ⟨by repeat (first | (with_reducible first | exact HB.out | apply below_alloc | apply pw_below_drewN | apply below_drew1) | exact HB.out)⟩⟩
        case round =>
          clear H'
          try clear p2
          try clear c3
          try clear c4
          try clear c5
          try clear c8
          try clear p2
          obtain ⟨x6_2, x18_2, rfl, HA, HK2, HO_6, HB⟩ := hrel
          cases gk with
          | zero => exact absurd HA.out (by simp [runs_Spread.l0])
          | succ k2 =>
            have H := HA.out
            clear HA
            simp only [runs_Spread.l0] at H
            by_cases c9 : x18_2 < (l0.length : Int)
            · rw [if_pos c9] at H
              have c9b0 : decide (x18_2 < (l0.length : Int)) = true := decide_eq_true c9
              clear c9
              by_cases c10 : 0 ≤ x18_2
              · rw [if_pos c10] at H
                have c10b0 : decide (0 ≤ x18_2) = true := decide_eq_true c10
                clear c10
                by_cases c11 : x18_2 < (l0.length : Int)
                · rw [if_pos c11] at H
                  have c11b0 : decide (x18_2 < (l0.length : Int)) = true := decide_eq_true c11
                  clear c11
                  by_cases c12 : ((rd_T53 l0 x18_2).f1) > (wrap64 (a1 - (x6_2.length : Int)))
                  · rw [if_pos c12] at H
                    have c12b0 : decide ((wrap64 (a1 - (x6_2.length : Int))) < ((rd_T53 l0 x18_2).f1)) = true := decide_eq_true c12
                    clear c12
                    simp only [Option.some.injEq, Prod.mk.injEq] at H
                    obtain ⟨rfl, rfl⟩ := H
                    have p270 : 0 ≤ (x18_2 : Int) := of_decide_eq_true (by first | (with_reducible assumption) | assumption)
                    have q270 : x18_2 < (l0.length : Int) := of_decide_eq_true (by first | (with_reducible assumption) | assumption)
                    obtain ⟨ad270, e270, hx270_0, hx270_1⟩ := at_T53 HR0.out x18_2 p270 q270
                    cases e270
                    replace hx270_0 := (HB.out.cell (World.block_lt_of_cell? w _ hx270_0)).trans hx270_0
                    replace hx270_1 := (HB.out.cell (World.block_lt_of_cell? w _ hx270_1)).trans hx270_1
                    replace p270 := eq_true p270
                    replace q270 := eq_true q270
                    go_wp2_with (first | ((with_reducible refine gate_dst (N := 8) rfl ?_); refine box_event ?hg (N := 8) ?hd (cs := #[.int .u64 0, .int .i64 0]) (t := 53) ?hr ?_; (case hd => rfl); (case hg => rfl); (case hr => first | (go_simp; done) | (go_simp; rfl)); intro gb271 hg w13 hbox hb; have n0_ := Aside0.mk (Kd.R_below (by (with_reducible repeat (first | apply Kd.R_alloc | apply Kd.R_drewN | apply Kd.R_drew)); exact HO_6.out) hb); have n1_ := Aside0.mk (below_step (by repeat (first | (with_reducible first | exact HB.out | apply below_alloc | apply pw_below_drewN | apply below_drew1) | exact HB.out)) hb); have n2_ := Aside0.mk (hbox); have n3_ := Aside0.mk ((by rw [hg]; exact (below_size (by repeat (first | (with_reducible first | exact HB.out | apply below_alloc | apply pw_below_drewN | apply below_drew1) | exact HB.out))) : w.heap.size ≤ gb271)); have n4_ := Aside0.mk ((by rw [hg]; exact (below_size (by repeat (first | (with_reducible first | exact HB.out | apply below_alloc | apply pw_below_drewN | apply below_drew1) | exact HB.out))) : w.heap.size ≤ gb271)); clear HO_6; clear HB; have HO_6 := n0_; have HB := n1_; have BK271 := n2_; have GW271 := n3_; have GE271 := n4_; clear n0_ n1_ n2_ n3_ n4_; clear hb hbox hg; have hcz14_0 : w13.cell? ⟨gb271, 0, none⟩ = some (.int .u64 0) := (blk_cell BK271.out 0).trans rfl; have hcz14_1 : w13.cell? ⟨gb271, 1, none⟩ = some (.int .i64 0) := (blk_cell BK271.out 1).trans rfl; have hfz14_0 := blk_frozen BK271.out 0; have hfz14_1 := blk_frozen BK271.out 1; obtain ⟨Ao15, co15, eo15⟩ := Kd.R_slice HO_6.out; subst eo15))
                    go_ret2
                    exact ⟨_, by first | rfl | (simp [errW_none, errW_some] <;> rfl) | (simp [*, errW_none, errW_some] <;> rfl), by first | exact Kd.R_nil _ _ _ _ _ | exact Kd.N_nil _ _ _ _ _ | exact Kd.V_nil _ _ _ _ _ | exact Kd.Q_nil _ _ _ _ _ | exact Kd.S_nil _ _ _ _ _, by repeat (first | (with_reducible first | exact HB.out | apply below_alloc | apply pw_below_drewN | apply below_drew1 | refine below_set ?_ GE271.out) | exact HB.out)⟩
                  · rw [if_neg c12] at H
                    have c12b0 : decide ((wrap64 (a1 - (x6_2.length : Int))) < ((rd_T53 l0 x18_2).f1)) = false := decide_eq_false c12
                    clear c12
                    obtain ⟨y272, hy272⟩ : ∃ y_ : List Int, y_ = (([(rd_T53 l0 x18_2).f0] : List Int)) := ⟨_, rfl⟩
                    replace H : ((slices_Repeat_uint64_uint64.f y272 ((rd_T53 l0 x18_2).f1)).bind fun t275 => (if x6_2.length + t275.length < 17592186044416 then (runs_Spread.l0 k2 a1 (x6_2 ++ t275) l0 (l0.length : Int) (wrap64 (x18_2 + 1))) else (none))) = some (r1, r2) := by first | (rw [hy272]; with_reducible exact H) | (have H2_ := (Option.bind_some _ _).symm.trans H; rw [hy272]; with_reducible exact H2_) | (have H2_ := (Option.bind_some _ _).symm.trans H; with_reducible exact H2_) | with_reducible exact H | (rw [hy272]; exact H) | exact H
                    have Ny272 := Aside0.mk hy272
                    clear hy272
                    replace H := Option.bind_eq_some_iff.mp H
                    obtain ⟨t275, A160, H⟩ := H
                    replace H : (if x6_2.length + t275.length < 17592186044416 then (runs_Spread.l0 k2 a1 (x6_2 ++ t275) l0 (l0.length : Int) (wrap64 (x18_2 + 1))) else (none)) = some (r1, r2) := H
                    have A16 := Aside0.mk A160
                    clear A160
                    by_cases c17 : x6_2.length + t275.length < 17592186044416
                    · rw [if_pos c17] at H
                      have LMc17 := Aside0.mk c17
                      clear c17
                      obtain ⟨y278, hy278⟩ : ∃ y_ : List Int, y_ = (x6_2 ++ t275) := ⟨_, rfl⟩
                      replace H : (runs_Spread.l0 k2 a1 y278 l0 (l0.length : Int) (wrap64 (x18_2 + 1))) = some (r1, r2) := by first | (rw [hy278]; with_reducible exact H) | (have H2_ := (Option.bind_some _ _).symm.trans H; rw [hy278]; with_reducible exact H2_) | (have H2_ := (Option.bind_some _ _).symm.trans H; with_reducible exact H2_) | with_reducible exact H | (rw [hy278]; exact H) | exact H
                      have Ny278 := Aside0.mk hy278
                      clear hy278
                      have H' := Aside0.mk H
                      clear H
                      have p270 : 0 ≤ (x18_2 : Int) := of_decide_eq_true (by first | (with_reducible assumption) | assumption)
                      have q270 : x18_2 < (l0.length : Int) := of_decide_eq_true (by first | (with_reducible assumption) | assumption)
                      obtain ⟨ad270, e270, hx270_0, hx270_1⟩ := at_T53 HR0.out x18_2 p270 q270
                      cases e270
                      replace hx270_0 := (HB.out.cell (World.block_lt_of_cell? w _ hx270_0)).trans hx270_0
                      replace hx270_1 := (HB.out.cell (World.block_lt_of_cell? w _ hx270_1)).trans hx270_1
                      replace p270 := eq_true p270
                      replace q270 := eq_true q270
                      go_wp2_with (first | ((with_reducible refine gate_dst (N := 8) rfl ?_); refine box_event ?hg (N := 8) ?hd (cs := #[.int .u64 0, .int .i64 0]) (t := 53) ?hr ?_; (case hd => rfl); (case hg => rfl); (case hr => first | (go_simp; done) | (go_simp; rfl)); intro gb271 hg w18 hbox hb; have n0_ := Aside0.mk (Kd.R_below (by (with_reducible repeat (first | apply Kd.R_alloc | apply Kd.R_drewN | apply Kd.R_drew)); exact HO_6.out) hb); have n1_ := Aside0.mk (below_step (by repeat (first | (with_reducible first | exact HB.out | apply below_alloc | apply pw_below_drewN | apply below_drew1) | exact HB.out)) hb); have n2_ := Aside0.mk (hbox); have n3_ := Aside0.mk ((by rw [hg]; exact (below_size (by repeat (first | (with_reducible first | exact HB.out | apply below_alloc | apply pw_below_drewN | apply below_drew1) | exact HB.out))) : w.heap.size ≤ gb271)); have n4_ := Aside0.mk ((by rw [hg]; exact (below_size (by repeat (first | (with_reducible first | exact HB.out | apply below_alloc | apply pw_below_drewN | apply below_drew1) | exact HB.out))) : w.heap.size ≤ gb271)); clear HO_6; clear HB; have HO_6 := n0_; have HB := n1_; have BK271 := n2_; have GW271 := n3_; have GE271 := n4_; clear n0_ n1_ n2_ n3_ n4_; clear hb hbox hg; have hcz19_0 : w18.cell? ⟨gb271, 0, none⟩ = some (.int .u64 0) := (blk_cell BK271.out 0).trans rfl; have hcz19_1 : w18.cell? ⟨gb271, 1, none⟩ = some (.int .i64 0) := (blk_cell BK271.out 1).trans rfl; have hfz19_0 := blk_frozen BK271.out 0; have hfz19_1 := blk_frozen BK271.out 1; obtain ⟨Ao20, co20, eo20⟩ := Kd.R_slice HO_6.out; subst eo20) | ((with_reducible refine gate_dst (N := 32) rfl ?_); refine Kd.R_lit (Kd.int .u64) _ 51 ?hg (N := 32) ?hd (xs := ([(rd_T53 l0 x18_2).f0] : List Int)) (inner := [.int .u64 ((rd_T53 l0 x18_2).f0)]) (ok := fun _ => True) (okp := fun _ => True) ?hr ?hp (fun _ hk => hk) trivial (Below.refl _ _) (Nat.le_refl _) (by simp) ?_; (case hd => rfl); (case hg => rfl); (case hr => first | (go_simp; done) | (go_simp; rfl)); (case hp => exact (Reps.one (show Kd.M (Kd.int .u64) _ _ _ ((rd_T53 l0 x18_2).f0) [.int .u64 ((rd_T53 l0 x18_2).f0)] from rfl) (Reps.none _ _))); intro v273 w21 ho22 hb hg_ hnew_; clear hg_ hnew_; (first | rw [← Ny272.out] at ho22 | (simp only [Int.reduceToNat] at ho22; rw [← Ny272.out] at ho22)); have n0_ := Aside0.mk (Kd.R_elder' (by (with_reducible repeat (first | apply Kd.R_alloc | apply Kd.R_drewN | apply Kd.R_drew)); exact (Kd.R_mono (Kd.R_far (p := ⟨gb271, 1, none⟩) (Kd.R_far (p := ⟨gb271, 0, none⟩) (Kd.R_types HO_6.out BK271.out (by decide)) (fun _ hk => hk.2) (.int .u64 ((rd_T53 l0 x18_2).f0))) (fun _ hk => hk.2) (.int .i64 ((rd_T53 l0 x18_2).f1))) (fun _ h_ => h_.1))) (Kd.R_base ho22) hb); have n1_ := Aside0.mk (Kd.R_lower (Kd.R_new' ho22 (Kd.R_lt (by (with_reducible repeat (first | apply Kd.R_alloc | apply Kd.R_drewN | apply Kd.R_drew)); exact (Kd.R_mono (Kd.R_far (p := ⟨gb271, 1, none⟩) (Kd.R_far (p := ⟨gb271, 0, none⟩) (Kd.R_types HO_6.out BK271.out (by decide)) (fun _ hk => hk.2) (.int .u64 ((rd_T53 l0 x18_2).f0))) (fun _ hk => hk.2) (.int .i64 ((rd_T53 l0 x18_2).f1))) (fun _ h_ => h_.1))))) (below_size (by repeat (first | (with_reducible first | exact HB.out | apply below_alloc | apply pw_below_drewN | apply below_drew1 | refine below_set ?_ GE271.out) | exact HB.out)))); have n2_ := Aside0.mk (blk_below (g := gb271) (o := .cells #[.int .u64 ((rd_T53 l0 x18_2).f0), .int .i64 ((rd_T53 l0 x18_2).f1)] 53 (0, 0)) (by (with_reducible repeat (first | refine blk_drewN ?_ _ | refine blk_drew ?_ | refine blk_alloc ?_ _)); refine blk_put (cs := #[.int .u64 ((rd_T53 l0 x18_2).f0), .int .i64 0]) ?_ 1 _ rfl; (with_reducible repeat (first | refine blk_drewN ?_ _ | refine blk_drew ?_ | refine blk_alloc ?_ _)); refine blk_put (cs := #[.int .u64 0, .int .i64 0]) ?_ 0 _ rfl; (with_reducible repeat (first | refine blk_drewN ?_ _ | refine blk_drew ?_ | refine blk_alloc ?_ _)); exact BK271.out) hb); have n3_ := Aside0.mk (below_step (by repeat (first | (with_reducible first | exact HB.out | apply below_alloc | apply pw_below_drewN | apply below_drew1 | refine below_set ?_ GE271.out) | exact HB.out)) hb); clear HO_6; clear BK271; clear HB; have HO_6 := n0_; have HO274 := n1_; have BK271 := n2_; have HB := n3_; clear n0_ n1_ n2_ n3_; clear hb ho22; have hcz23_0 : w21.cell? ⟨gb271, 0, none⟩ = some (.int .u64 ((rd_T53 l0 x18_2).f0)) := (blk_cell BK271.out 0).trans rfl; have hcz23_1 : w21.cell? ⟨gb271, 1, none⟩ = some (.int .i64 ((rd_T53 l0 x18_2).f1)) := (blk_cell BK271.out 1).trans rfl; have hfz23_0 := blk_frozen BK271.out 0; have hfz23_1 := blk_frozen BK271.out 1; obtain ⟨Ao24, co24, eo24⟩ := Kd.R_slice HO274.out; subst eo24) | ((with_reducible refine gate_callee (f := 88) rfl ?_); refine goesL_ (some 35) rfl rfl Try.func88 (by kernel_rfl) rfl #[.slice Ao24 y272.length co24, .int .i64 ((rd_T53 l0 x18_2).f1)] rfl (by (try simp only [List.map_toArray, List.map_cons, List.map_nil]); first | done | rfl | (simp only [List.length_drop, List.length_take]; rfl)) ?_; (with_reducible refine (slices_Repeat_uint64_uint64.calls _ _ y272 ((rd_T53 l0 x18_2).f1) t275 _ ?side1 ?side2 A16.out).mono ?_); (case side1 => repeat (first | exact (Kd.R_reads' HO274.out).2.2 | (with_reducible refine Kd.C_alloc ?_ _) | (with_reducible refine Kd.C_drewN ?_ _) | (with_reducible refine Kd.C_drew ?_))); (case side2 => exact (Kd.R_reads' HO274.out).2.1); rintro e w25 ⟨v276, rfl, ho0, hb⟩; refine ⟨_, rfl, ?_⟩; have n0_ := Aside0.mk (Kd.R_elder' (by (with_reducible repeat (first | apply Kd.R_alloc | apply Kd.R_drewN | apply Kd.R_drew)); exact HO_6.out) (Kd.R_base ho0) hb); have n1_ := Aside0.mk (Kd.R_elder' (by (with_reducible repeat (first | apply Kd.R_alloc | apply Kd.R_drewN | apply Kd.R_drew)); exact HO274.out) (Kd.R_base ho0) hb); have n2_ := Aside0.mk (Kd.R_lower (Kd.R_new' (Kd.R_new' ho0 (Kd.R_lt (by (with_reducible repeat (first | apply Kd.R_alloc | apply Kd.R_drewN | apply Kd.R_drew)); exact HO_6.out))) (Kd.R_lt (by (with_reducible repeat (first | apply Kd.R_alloc | apply Kd.R_drewN | apply Kd.R_drew)); exact HO274.out))) (below_size (by repeat (first | (with_reducible first | exact HB.out | apply below_alloc | apply pw_below_drewN | apply below_drew1 | refine below_set ?_ GE271.out) | exact HB.out)))); have n3_ := Aside0.mk (blk_below (g := gb271) (o := .cells #[.int .u64 ((rd_T53 l0 x18_2).f0), .int .i64 ((rd_T53 l0 x18_2).f1)] 53 (0, 0)) (by (with_reducible repeat (first | refine blk_drewN ?_ _ | refine blk_drew ?_ | refine blk_alloc ?_ _)); exact BK271.out) hb); have n4_ := Aside0.mk (below_step (by repeat (first | (with_reducible first | exact HB.out | apply below_alloc | apply pw_below_drewN | apply below_drew1 | refine below_set ?_ GE271.out) | exact HB.out)) hb); clear HO_6; clear HO274; clear BK271; clear HB; have HO_6 := n0_; have HO274 := n1_; have HO277 := n2_; have BK271 := n3_; have HB := n4_; clear n0_ n1_ n2_ n3_ n4_; (try clear hb); (try clear hb2); (try clear hk); (try clear hi); (try clear ho0); obtain ⟨Ao27, co27, eo27⟩ := Kd.R_slice HO277.out; subst eo27) | ((with_reducible refine gate_builtin (b := .append) (xs := #[.tmp 29, .tmp 35]) rfl ?_); at_builtin; refine Kd.R_append_rows (Kd.int .u64) (w0 := w) w.heap.size rfl (.tmp 29) (.tmp 35) 38 51 (.int .u64 0) 8 rfl Try.underlying38 info51 rfl (by decide) (by omega) (.slice Ao20 x6_2.length co20) x6_2 t275 _ _ _ (fun k_ => some k_ ≠ (.slice Ao24 y272.length co24 : Value).ownBlock ∧ some k_ ≠ (.slice Ao27 t275.length co27 : Value).ownBlock) (fun _ => False) rfl rfl ?aO ?aR (fun _ _ h => h) (fun _ h => h.elim) ?aF ?aB ?aS ?aL ?_; (case aR => repeat (first | exact (Kd.R_reads' HO277.out).2.2 | (with_reducible refine Kd.C_alloc ?_ _) | (with_reducible refine Kd.C_drewN ?_ _) | (with_reducible refine Kd.C_drew ?_))); (case aB => exact (by repeat (first | (with_reducible first | exact HB.out | apply below_alloc | apply pw_below_drewN | apply below_drew1 | refine below_set ?_ GE271.out) | exact HB.out))); (case aF => exact (fun k_ hk => ⟨Kd.fresh' (Kd.R_lt (by (with_reducible repeat (first | apply Kd.R_alloc | apply Kd.R_drewN | apply Kd.R_drew)); exact HO274.out)) k_ hk, Kd.fresh' (Kd.R_lt (by (with_reducible repeat (first | apply Kd.R_alloc | apply Kd.R_drewN | apply Kd.R_drew)); exact HO277.out)) k_ hk⟩)); (case aO => exact (by (with_reducible repeat (first | apply Kd.R_alloc | apply Kd.R_drewN | apply Kd.R_drew)); exact Kd.R_mono HO_6.out (fun _ hk => ⟨hk.1.2, hk.2⟩))); (case aS => exact (below_size (by repeat (first | (with_reducible first | exact HB.out | apply below_alloc | apply pw_below_drewN | apply below_drew1 | refine below_set ?_ GE271.out) | exact HB.out)))); (case aL => have := LMc17.out; omega); intro v279 w26 ho hb hg hat; rw [← Ny278.out] at ho; have n0_ := Aside0.mk (blk_grown (g := gb271) (o := .cells #[.int .u64 ((rd_T53 l0 x18_2).f0), .int .i64 ((rd_T53 l0 x18_2).f1)] 53 (0, 0)) (by (with_reducible repeat (first | refine blk_drewN ?_ _ | refine blk_drew ?_ | refine blk_alloc ?_ _)); exact BK271.out) hg (Kd.R_ne HO_6.out BK271.out (by decide))); have n1_ := Aside0.mk (Kd.R_after (ok := (fun k_ => some k_ ≠ (.slice Ao27 t275.length co27 : Value).ownBlock)) (by (with_reducible repeat (first | apply Kd.R_alloc | apply Kd.R_drewN | apply Kd.R_drew)); exact Kd.R_mono HO274.out (fun _ hk => ⟨hk.2, hk.1.2⟩)) hg hat); have n2_ := Aside0.mk (Kd.R_after (ok := (fun k_ => some k_ ≠ (.slice Ao24 y272.length co24 : Value).ownBlock)) (by (with_reducible repeat (first | apply Kd.R_alloc | apply Kd.R_drewN | apply Kd.R_drew)); exact Kd.R_mono HO277.out (fun _ hk => ⟨hk.2, hk.1.2⟩)) hg hat); have n3_ := Aside0.mk (hb); have n4_ := Aside0.mk (ho); clear BK271; clear HO274; clear HO277; clear HB; clear HO_6; have BK271 := n0_; have HO274 := n1_; have HO277 := n2_; have HB := n3_; have HO280 := n4_; clear n0_ n1_ n2_ n3_ n4_; clear ho hb hg hat))
                      go_roundg k2
                      case measure => have := HJ2.out; have := HK2.out; omega
                      case rel => exact ⟨(y278), (wrap64 (x18_2 + 1)), (by first | rfl | (simp; done) | (simp [*]; done)), H', ⟨by have := HJ2.out; have := HK2.out; omega⟩, ⟨by (with_reducible repeat (first | apply Kd.R_alloc | apply Kd.R_drewN | apply Kd.R_drew)); exact Kd.R_mono HO280.out (fun _ hk => trivial)⟩, ⟨by repeat (first | (with_reducible first | exact HB.out | apply below_alloc | apply pw_below_drewN | apply below_drew1 | refine below_set ?_ GE271.out) | exact HB.out)⟩⟩
                    · rw [if_neg c17] at H
                      exact absurd H (by simp)
                · rw [if_neg c11] at H
                  exact absurd H (by simp)
              · rw [if_neg c10] at H
                exact absurd H (by simp)
            · rw [if_neg c9] at H
              have c9b0 : decide (x18_2 < (l0.length : Int)) = false := decide_eq_false c9
              clear c9
              simp only [Option.some.injEq, Prod.mk.injEq] at H
              obtain ⟨rfl, rfl⟩ := H
              go_wp2
              go_ret2
              exact ⟨_, by first | rfl | (simp [errW_none, errW_some] <;> rfl) | (simp [*, errW_none, errW_some] <;> rfl), by (with_reducible repeat (first | apply Kd.R_alloc | apply Kd.R_drewN | apply Kd.R_drew)); exact HO_6.out, by repeat (first | (with_reducible first | exact HB.out | apply below_alloc | apply pw_below_drewN | apply below_drew1) | exact HB.out)⟩
def runs_of_uint64.l0 : Nat → List (S98) → List Int → Int → Int → Option ((List (S98)))
  | 0, _, _, _, _ => none
  | k + 1, x3, x7, x8, x9 => if x9 < x8 then (if 0 ≤ x9 then (if x9 < (x7.length : Int) then (if (wrap64 ((x3.length : Int) - 1)) ≥ 0 then (if 0 ≤ (wrap64 ((x3.length : Int) - 1)) then (if (wrap64 ((x3.length : Int) - 1)) < (x3.length : Int) then (if ((rd_T98 x3 (wrap64 ((x3.length : Int) - 1))).f0) = (rd x7 x9) then (runs_of_uint64.l0 k (x3.set ((wrap64 ((x3.length : Int) - 1)) : Int).toNat (⟨(rd_T98 x3 (wrap64 ((x3.length : Int) - 1))).f0, wrap64 (((rd_T98 x3 (wrap64 ((x3.length : Int) - 1))).f1) + 1)⟩ : S98)) x7 x8 (wrap64 (x9 + 1))) else (if x3.length < 8796093022208 then (runs_of_uint64.l0 k (x3 ++ [(⟨rd x7 x9, 1⟩ : S98)]) x7 x8 (wrap64 (x9 + 1))) else (none))) else (none)) else (none)) else (if x3.length < 8796093022208 then (runs_of_uint64.l0 k (x3 ++ [(⟨rd x7 x9, 1⟩ : S98)]) x7 x8 (wrap64 (x9 + 1))) else (none))) else (none)) else (none)) else (some x3)
def runs_of_uint64.f (k : Nat) (l0 : List Int) : Option ((List (S98))) := runs_of_uint64.l0 k ([] : List (S98)) l0 (l0.length : Int) 0
theorem runs_of_uint64.mono_l : ∀ k, (∀ y0 y1 y2 y3, LeO (runs_of_uint64.l0 k y0 y1 y2 y3) (runs_of_uint64.l0 (k + 1) y0 y1 y2 y3))
  | 0 => fun _ _ _ _ r h => by simp [runs_of_uint64.l0] at h
  | k + 1 => by
    have ih0 := runs_of_uint64.mono_l k
    · intro y0 y1 y2 y3
      unfold runs_of_uint64.l0
      repeat' first
      | (with_reducible exact ih0 _ _ _ _)
      | (with_reducible exact LeO.refl _)
      | (with_reducible exact LeO.none _)
      | (with_reducible refine LeO.ite ?_ ?_)
      | (with_reducible refine LeO.bind ?_ (fun _ => ?_))
      | exact ih0 _ _ _ _
      | exact LeO.none _
      | refine LeO.ite ?_ ?_
      | refine LeO.bind ?_ (fun _ => ?_)
theorem runs_of_uint64.mono : ∀ a0 k, LeO (runs_of_uint64.f k a0) (runs_of_uint64.f (k + 1) a0) := by
  intro a0 k
  have ih0 := runs_of_uint64.mono_l k
  unfold runs_of_uint64.f
  repeat' first
      | (with_reducible exact ih0 _ _ _ _)
      | (with_reducible exact LeO.refl _)
      | (with_reducible exact LeO.none _)
      | (with_reducible refine LeO.ite ?_ ?_)
      | (with_reducible refine LeO.bind ?_ (fun _ => ?_))
      | exact ih0 _ _ _ _
      | exact LeO.none _
      | refine LeO.ite ?_ ?_
      | refine LeO.bind ?_ (fun _ => ?_)
set_option maxHeartbeats 8000000 in
set_option maxRecDepth 100000 in
theorem runs_of_uint64.calls (k : Nat) (A0 : Option Addr) (c0 : Nat) (l0 : List Int) (r : List (S98)) (w : World) (hr0 : Kd.C (Kd.int .u64) w A0 l0.length l0) (hc0 : l0.length ≤ c0) (h : runs_of_uint64.f k l0 = some r) :
    Calls Try.prog 89 #[.slice A0 l0.length c0] w fun e w' => ∃ v0_ : Value, e = .returned (v0_) ∧ Kd.R k98 98 w' w.heap.size (fun _ => True) v0_ r ∧ Below w.heap.size w w' := by
  have hu98 := Try.underlying98
  have HR0 := Aside0.mk hr0
  have HC0 := Aside0.mk hc0
  clear hr0 hc0
  have HB := Aside0.mk (Below.refl w.heap.size w)
  have H : (runs_of_uint64.l0 k ([] : List (S98)) l0 (l0.length : Int) 0) = some r := h
  clear h
  have H' := Aside0.mk H
  clear H
  go_enter Try.func89, Try.ntmps89
  go_wp2
  go_loopg [3, 9] k (fun kq v3 v9 w' => ∃ (x3_1 : List (S98)) (x9_1 : Int), v9 = .int .i64 x9_1 ∧ Aside0 (runs_of_uint64.l0 kq x3_1 l0 (l0.length : Int) x9_1 = some r) ∧ Aside0 (kq ≤ k) ∧ Aside0 (Kd.R k98 98 w' w.heap.size (fun _ => True) v3 x3_1) ∧ Aside0 (Below w.heap.size w w'))
  case atStart => exact ⟨(([] : List (S98))), (0), (by first | rfl | (simp; done) | (simp [*]; done)), H', ⟨Nat.le_refl _⟩, ⟨by first | exact Kd.R_nil _ _ _ _ _ | exact Kd.N_nil _ _ _ _ _ | exact Kd.V_nil _ _ _ _ _ | exact Kd.Q_nil _ _ _ _ _ | exact Kd.S_nil _ _ _ _ _⟩, ⟨by repeat (first | (with_reducible first | exact HB.out | apply below_alloc | apply pw_below_drewN | apply below_drew1) | exact HB.out)⟩⟩
  case round =>
    clear H'
    obtain ⟨x3_1, x9_1, rfl, HA, HK1, HO_3, HB⟩ := hrel
    cases gk with
    | zero => exact absurd HA.out (by simp [runs_of_uint64.l0])
    | succ k1 =>
      have H := HA.out
      clear HA
      simp only [runs_of_uint64.l0] at H
      by_cases c2 : x9_1 < (l0.length : Int)
      · rw [if_pos c2] at H
        have c2b0 : decide (x9_1 < (l0.length : Int)) = true := decide_eq_true c2
        clear c2
        by_cases c3 : 0 ≤ x9_1
        · rw [if_pos c3] at H
          have c3b0 : decide (0 ≤ x9_1) = true := decide_eq_true c3
          clear c3
          by_cases c4 : x9_1 < (l0.length : Int)
          · rw [if_pos c4] at H
            have c4b0 : decide (x9_1 < (l0.length : Int)) = true := decide_eq_true c4
            clear c4
            by_cases c5 : (wrap64 ((x3_1.length : Int) - 1)) ≥ 0
            · rw [if_pos c5] at H
              have c5b0 : decide (0 ≤ (wrap64 ((x3_1.length : Int) - 1))) = true := decide_eq_true c5
              clear c5
              obtain ⟨ji6, hji6⟩ : ∃ j_ : Int, (wrap64 ((x3_1.length : Int) - 1)) = j_ := ⟨_, rfl⟩
              replace H : (if 0 ≤ (ji6) then (if (ji6) < (x3_1.length : Int) then (if ((rd_T98 x3_1 (ji6)).f0) = (rd l0 x9_1) then (runs_of_uint64.l0 k1 (x3_1.set ((ji6) : Int).toNat (⟨(rd_T98 x3_1 (ji6)).f0, wrap64 (((rd_T98 x3_1 (ji6)).f1) + 1)⟩ : S98)) l0 (l0.length : Int) (wrap64 (x9_1 + 1))) else (if x3_1.length < 8796093022208 then (runs_of_uint64.l0 k1 (x3_1 ++ [(⟨rd l0 x9_1, 1⟩ : S98)]) l0 (l0.length : Int) (wrap64 (x9_1 + 1))) else (none))) else (none)) else (none)) = some r := by first | (rw [hji6] at H; exact H) | (simp only [hji6] at H ⊢; exact H)
              (try rw [hji6] at c5b0)
              have hji6w : (IntKind.i64.wrap ((x3_1.length : Int) - 1)) = ji6 := (i64_w _).trans hji6
              by_cases c7 : 0 ≤ (ji6)
              · rw [if_pos c7] at H
                have c7b0 : decide (0 ≤ (ji6)) = true := decide_eq_true c7
                clear c7
                by_cases c8 : (ji6) < (x3_1.length : Int)
                · rw [if_pos c8] at H
                  have c8b0 : decide ((ji6) < (x3_1.length : Int)) = true := decide_eq_true c8
                  clear c8
                  by_cases c9 : ((rd_T98 x3_1 (ji6)).f0) = (rd l0 x9_1)
                  · rw [if_pos c9] at H
                    have c9b0 : (((rd_T98 x3_1 (ji6)).f0) == (rd l0 x9_1)) = true := beq_iff_eq.mpr c9
                    have c9b1 : (((rd_T98 x3_1 (ji6)).f0) != (rd l0 x9_1)) = false := bne_eq_false_iff_eq.mpr c9
                    clear c9
                    obtain ⟨y286, hy286⟩ : ∃ y_ : List (S98), y_ = (x3_1.set ((ji6) : Int).toNat (⟨(rd_T98 x3_1 (ji6)).f0, wrap64 (((rd_T98 x3_1 (ji6)).f1) + 1)⟩ : S98)) := ⟨_, rfl⟩
                    replace H : (runs_of_uint64.l0 k1 y286 l0 (l0.length : Int) (wrap64 (x9_1 + 1))) = some r := by first | (rw [hy286]; with_reducible exact H) | (have H2_ := (Option.bind_some _ _).symm.trans H; rw [hy286]; with_reducible exact H2_) | (have H2_ := (Option.bind_some _ _).symm.trans H; with_reducible exact H2_) | with_reducible exact H | (rw [hy286]; exact H) | exact H
                    have Ny286 := Aside0.mk hy286
                    clear hy286
                    have H' := Aside0.mk H
                    clear H
                    have p283 : 0 ≤ (x9_1 : Int) := of_decide_eq_true (by first | (with_reducible assumption) | assumption)
                    have q283 : x9_1 < (l0.length : Int) := of_decide_eq_true (by first | (with_reducible assumption) | assumption)
                    obtain ⟨ad283, e283, hx283_0⟩ := Kd.at_int HR0.out x9_1 p283 q283
                    cases e283
                    replace hx283_0 := (HB.out.cell (World.block_lt_of_cell? w _ hx283_0)).trans hx283_0
                    replace p283 := eq_true p283
                    replace q283 := eq_true q283
                    obtain ⟨Ao11, co11, eo11⟩ := Kd.R_slice HO_3.out
                    subst eo11
                    have p284 : 0 ≤ ((ji6) : Int) := of_decide_eq_true (by first | (with_reducible assumption) | assumption)
                    have q284 : (ji6) < (x3_1.length : Int) := of_decide_eq_true (by first | (with_reducible assumption) | assumption)
                    obtain ⟨ad284, e284, hx284_0, hx284_1⟩ := at_T98 (Kd.R_reads' HO_3.out).2.2 (ji6) p284 q284
                    cases e284
                    replace p284 := eq_true p284
                    replace q284 := eq_true q284
                    have p285 : 0 ≤ ((ji6) : Int) := of_decide_eq_true (by first | (with_reducible assumption) | assumption)
                    have q285 : (ji6) < (x3_1.length : Int) := of_decide_eq_true (by first | (with_reducible assumption) | assumption)
                    obtain ⟨ad285, e285, hx285_0, hx285_1⟩ := at_T98 (Kd.R_reads' HO_3.out).2.2 (ji6) p285 q285
                    obtain rfl : ad284 = ad285 := (by injection e285)
                    replace p285 := eq_true p285
                    replace q285 := eq_true q285
                    have p10 : 0 ≤ ((ji6) : Int) := of_decide_eq_true (by first | (with_reducible assumption) | assumption)
                    have q10 : ((ji6) : Int) < ((x3_1.length : Int) : Int) := of_decide_eq_true (by first | (with_reducible assumption) | assumption)
                    obtain ⟨go10, co10, eo10, gb10, gl10, cl10, HG10⟩ := Kd.R_form HO_3.out (by omega)
                    (first | cases eo10 | (injection eo10 with ea_ en_ ec_; (first | subst ea_ | (injection ea_ with ea_; subst ea_)); subst ec_; clear en_))
                    have GB10 := Aside0.mk gb10
                    have GG10 := Aside0.mk HG10
                    clear gb10 gl10 HG10
                    (first | simp only [add_plain] at hx284_0 | skip)
                    (first | simp only [add_plain] at hx284_1 | skip)
                    (first | simp only [add_plain] at hx285_0 | skip)
                    (first | simp only [add_plain] at hx285_1 | skip)
                    obtain ⟨ce10, hcl10, hM10, hcc10, hfr10⟩ := Kd.R_elem HO_3.out z98 ((ji6) : Int) p10 q10
                    obtain rfl := k98_openM hM10
                    have hx10_0 : wr.cell? ⟨go10, ((ji6) : Int).toNat * 2, none⟩ = some (.int .u64 ((rd_T98 x3_1 (ji6)).f0)) := hcc10 0 _ rfl
                    have hx10_1 : wr.cell? ⟨go10, ((ji6) : Int).toNat * 2 + 1, none⟩ = some (.int .i64 ((rd_T98 x3_1 (ji6)).f1)) := hcc10 1 _ rfl
                    have hf10_0 : wr.frozen? ⟨go10, ((ji6) : Int).toNat * 2, none⟩ = false := hfr10 0
                    have hf10_1 : wr.frozen? ⟨go10, ((ji6) : Int).toNat * 2 + 1, none⟩ = false := hfr10 1
                    clear hcl10 hcc10 hfr10 hM10
                    replace p10 := eq_true p10
                    replace q10 := eq_true q10
                    have HX12 := Aside0.mk (show Kd.R k98 98 wr w.heap.size (fun _ => True) (.slice (some ⟨go10, 0, none⟩) x3_1.length co11) x3_1 from (by (with_reducible repeat (first | apply Kd.R_alloc | apply Kd.R_drewN | apply Kd.R_drew)); exact HO_3.out))
                    obtain ⟨ce12, hcl12, hM12, hcc12, hfr12⟩ := Kd.R_elem HX12.out z98 ((ji6) : Int) (of_decide_eq_true (by first | (with_reducible assumption) | assumption)) (by have h_ : ((ji6) : Int) < ((x3_1.length : Int) : Int) := of_decide_eq_true (by first | (with_reducible assumption) | assumption); first | exact h_ | (have e_ := (Kd.R_reads' HO_3.out).1; omega) | simpa using h_)
                    obtain rfl := k98_openM hM12
                    have HP12 := Kd.R_seg HX12.out ((ji6) : Int) (of_decide_eq_true (by first | (with_reducible assumption) | assumption)) (by have h_ : ((ji6) : Int) < ((x3_1.length : Int) : Int) := of_decide_eq_true (by first | (with_reducible assumption) | assumption); first | exact h_ | (have e_ := (Kd.R_reads' HO_3.out).1; omega) | simpa using h_) (seg := [.int .i64 (wrap64 (((rd_T98 x3_1 (ji6)).f1) + 1))]) (j := 1) hcl12 hcc12 (show 2 ≤ 2 from by decide) (x' := (⟨(rd_T98 x3_1 (ji6)).f0, wrap64 (((rd_T98 x3_1 (ji6)).f1) + 1)⟩ : S98)) (k98_mkM _ _ _ (⟨(rd_T98 x3_1 (ji6)).f0, wrap64 (((rd_T98 x3_1 (ji6)).f1) + 1)⟩ : S98) ) (fun _ hk => hk)
                    have hx12_1 := hcc12 1 _ rfl
                    (try simp only [show (k98).sz = 2 from rfl, Nat.mul_one, Nat.add_zero] at hx12_1)
                    have hf12_1 := hfr12 1
                    (try simp only [show (k98).sz = 2 from rfl, Nat.mul_one, Nat.add_zero] at hf12_1)
                    clear hcl12 hcc12 hfr12 hM12
                    go_wp2_with (first | ((with_reducible refine gate_store (t := 3) (p := 34) rfl ?_); refine store_event (t := 3) (p := 34) (v := ?vo_w13) (w1 := (wr.setCell ⟨go10, ((ji6) : Int).toNat * 2 + 1, none⟩ (.int .i64 (wrap64 (((rd_T98 x3_1 (ji6)).f1) + 1))))) ?hg ?ho ?hn ?hr ?_; (case ho => rfl); (case hg => rfl); (case hn => rfl); (case hr => first | (go_simp; done) | (go_simp; rfl)); intro w13 hw; have hg : wr.grownBy w13 (some go10) := (by rw [hw]; exact HP12.2); have hp_ : Kd.R k98 98 w13 w.heap.size (fun _ => True) (.slice (some ⟨go10, 0, none⟩) x3_1.length co11) y286 := (by rw [hw, Ny286.out]; exact HP12.1); clear HP12; have n0_ := Aside0.mk (hp_); have n1_ := Aside0.mk ((by rw [hw]; exact below_set (HB.out) GB10.out : Below w.heap.size w w13)); clear HO_3; clear HB; have HO_3 := n0_; have HB := n1_; clear n0_ n1_; clear hg hw hp_))
                    go_roundg k1
                    case measure => have := HK1.out; omega
                    case rel => exact ⟨(y286), (wrap64 (x9_1 + 1)), (by first | rfl | (simp; done) | (simp [*]; done)), H', ⟨by have := HK1.out; omega⟩, ⟨by (with_reducible repeat (first | apply Kd.R_alloc | apply Kd.R_drewN | apply Kd.R_drew)); exact HO_3.out⟩, ⟨by repeat (first | (with_reducible first | exact HB.out | apply below_alloc | apply pw_below_drewN | apply below_drew1) | exact HB.out)⟩⟩
                  · rw [if_neg c9] at H
                    have c9b0 : (((rd_T98 x3_1 (ji6)).f0) == (rd l0 x9_1)) = false := beq_eq_false_iff_ne.mpr c9
                    have c9b1 : (((rd_T98 x3_1 (ji6)).f0) != (rd l0 x9_1)) = true := bne_iff_ne.mpr c9
                    by_cases c14 : x3_1.length < 8796093022208
                    · rw [if_pos c14] at H
                      have LMc14 := Aside0.mk c14
                      clear c14
                      obtain ⟨y287, hy287⟩ : ∃ y_ : List (S98), y_ = (x3_1 ++ [(⟨rd l0 x9_1, 1⟩ : S98)]) := ⟨_, rfl⟩
                      replace H : (runs_of_uint64.l0 k1 y287 l0 (l0.length : Int) (wrap64 (x9_1 + 1))) = some r := by first | (rw [hy287]; with_reducible exact H) | (have H2_ := (Option.bind_some _ _).symm.trans H; rw [hy287]; with_reducible exact H2_) | (have H2_ := (Option.bind_some _ _).symm.trans H; with_reducible exact H2_) | with_reducible exact H | (rw [hy287]; exact H) | exact H
                      have Ny287 := Aside0.mk hy287
                      clear hy287
                      have H' := Aside0.mk H
                      clear H
                      have p283 : 0 ≤ (x9_1 : Int) := of_decide_eq_true (by first | (with_reducible assumption) | assumption)
                      have q283 : x9_1 < (l0.length : Int) := of_decide_eq_true (by first | (with_reducible assumption) | assumption)
                      obtain ⟨ad283, e283, hx283_0⟩ := Kd.at_int HR0.out x9_1 p283 q283
                      cases e283
                      replace hx283_0 := (HB.out.cell (World.block_lt_of_cell? w _ hx283_0)).trans hx283_0
                      replace p283 := eq_true p283
                      replace q283 := eq_true q283
                      obtain ⟨Ao15, co15, eo15⟩ := Kd.R_slice HO_3.out
                      subst eo15
                      have p284 : 0 ≤ ((ji6) : Int) := of_decide_eq_true (by first | (with_reducible assumption) | assumption)
                      have q284 : (ji6) < (x3_1.length : Int) := of_decide_eq_true (by first | (with_reducible assumption) | assumption)
                      obtain ⟨ad284, e284, hx284_0, hx284_1⟩ := at_T98 (Kd.R_reads' HO_3.out).2.2 (ji6) p284 q284
                      cases e284
                      replace p284 := eq_true p284
                      replace q284 := eq_true q284
                      go_wp2_with (first | ((with_reducible refine gate_builtin (b := .append) (xs := #[.tmp 35, .tmp 38]) rfl ?_); at_builtin; refine Kd.R_append k98 (w0 := w) w.heap.size rfl (.tmp 35) (.tmp 38) 95 98 (.agg #[(.int .u64 0), (.int .i64 0)]) 16 rfl Try.underlying95 info98 rfl (by decide) (by omega) (.slice (some ad284) x3_1.length co15) x3_1 (⟨rd l0 x9_1, 1⟩ : S98) [.int .u64 (rd l0 x9_1), .int .i64 1] (fun _ => True) (fun _ => False) rfl rfl ?aP (fun _ hk => hk.elim) ?aF ?aO ?aB ?aS ?aL ?_; (case aP => exact k98_mkM _ _ _ (⟨rd l0 x9_1, 1⟩ : S98)); (case aB => exact (by repeat (first | (with_reducible first | exact HB.out | apply below_alloc | apply pw_below_drewN | apply below_drew1) | exact HB.out))); (case aF => exact (fun _ _ => trivial)); (case aO => exact (by (with_reducible repeat (first | apply Kd.R_alloc | apply Kd.R_drewN | apply Kd.R_drew)); exact HO_3.out)); (case aS => exact (below_size (by repeat (first | (with_reducible first | exact HB.out | apply below_alloc | apply pw_below_drewN | apply below_drew1) | exact HB.out)))); (case aL => have := LMc14.out; omega); intro v288 w16 ho hb hg hat; rw [← Ny287.out] at ho; have n0_ := Aside0.mk (hb); have n1_ := Aside0.mk (ho); clear HB; clear HO_3; have HB := n0_; have HO289 := n1_; clear n0_ n1_; clear ho hb hg hat))
                      go_roundg k1
                      case measure => have := HK1.out; omega
                      case rel => exact ⟨(y287), (wrap64 (x9_1 + 1)), (by first | rfl | (simp; done) | (simp [*]; done)), H', ⟨by have := HK1.out; omega⟩, ⟨by (with_reducible repeat (first | apply Kd.R_alloc | apply Kd.R_drewN | apply Kd.R_drew)); exact HO289.out⟩, ⟨by repeat (first | (with_reducible first | exact HB.out | apply below_alloc | apply pw_below_drewN | apply below_drew1) | exact HB.out)⟩⟩
                    · rw [if_neg c14] at H
                      exact absurd H (by simp)
                · rw [if_neg c8] at H
                  exact absurd H (by simp)
              · rw [if_neg c7] at H
                exact absurd H (by simp)
            · rw [if_neg c5] at H
              have c5b0 : decide (0 ≤ (wrap64 ((x3_1.length : Int) - 1))) = false := decide_eq_false c5
              clear c5
              by_cases c17 : x3_1.length < 8796093022208
              · rw [if_pos c17] at H
                have LMc17 := Aside0.mk c17
                clear c17
                obtain ⟨y290, hy290⟩ : ∃ y_ : List (S98), y_ = (x3_1 ++ [(⟨rd l0 x9_1, 1⟩ : S98)]) := ⟨_, rfl⟩
                replace H : (runs_of_uint64.l0 k1 y290 l0 (l0.length : Int) (wrap64 (x9_1 + 1))) = some r := by first | (rw [hy290]; with_reducible exact H) | (have H2_ := (Option.bind_some _ _).symm.trans H; rw [hy290]; with_reducible exact H2_) | (have H2_ := (Option.bind_some _ _).symm.trans H; with_reducible exact H2_) | with_reducible exact H | (rw [hy290]; exact H) | exact H
                have Ny290 := Aside0.mk hy290
                clear hy290
                have H' := Aside0.mk H
                clear H
                have p283 : 0 ≤ (x9_1 : Int) := of_decide_eq_true (by first | (with_reducible assumption) | assumption)
                have q283 : x9_1 < (l0.length : Int) := of_decide_eq_true (by first | (with_reducible assumption) | assumption)
                obtain ⟨ad283, e283, hx283_0⟩ := Kd.at_int HR0.out x9_1 p283 q283
                cases e283
                replace hx283_0 := (HB.out.cell (World.block_lt_of_cell? w _ hx283_0)).trans hx283_0
                replace p283 := eq_true p283
                replace q283 := eq_true q283
                obtain ⟨Ao18, co18, eo18⟩ := Kd.R_slice HO_3.out
                subst eo18
                go_wp2_with (first | ((with_reducible refine gate_builtin (b := .append) (xs := #[.tmp 35, .tmp 38]) rfl ?_); at_builtin; refine Kd.R_append k98 (w0 := w) w.heap.size rfl (.tmp 35) (.tmp 38) 95 98 (.agg #[(.int .u64 0), (.int .i64 0)]) 16 rfl Try.underlying95 info98 rfl (by decide) (by omega) (.slice Ao18 x3_1.length co18) x3_1 (⟨rd l0 x9_1, 1⟩ : S98) [.int .u64 (rd l0 x9_1), .int .i64 1] (fun _ => True) (fun _ => False) rfl rfl ?aP (fun _ hk => hk.elim) ?aF ?aO ?aB ?aS ?aL ?_; (case aP => exact k98_mkM _ _ _ (⟨rd l0 x9_1, 1⟩ : S98)); (case aB => exact (by repeat (first | (with_reducible first | exact HB.out | apply below_alloc | apply pw_below_drewN | apply below_drew1) | exact HB.out))); (case aF => exact (fun _ _ => trivial)); (case aO => exact (by (with_reducible repeat (first | apply Kd.R_alloc | apply Kd.R_drewN | apply Kd.R_drew)); exact HO_3.out)); (case aS => exact (below_size (by repeat (first | (with_reducible first | exact HB.out | apply below_alloc | apply pw_below_drewN | apply below_drew1) | exact HB.out)))); (case aL => have := LMc17.out; omega); intro v291 w19 ho hb hg hat; rw [← Ny290.out] at ho; have n0_ := Aside0.mk (hb); have n1_ := Aside0.mk (ho); clear HB; clear HO_3; have HB := n0_; have HO292 := n1_; clear n0_ n1_; clear ho hb hg hat))
                go_roundg k1
                case measure => have := HK1.out; omega
                case rel => exact ⟨(y290), (wrap64 (x9_1 + 1)), (by first | rfl | (simp; done) | (simp [*]; done)), H', ⟨by have := HK1.out; omega⟩, ⟨by (with_reducible repeat (first | apply Kd.R_alloc | apply Kd.R_drewN | apply Kd.R_drew)); exact HO292.out⟩, ⟨by repeat (first | (with_reducible first | exact HB.out | apply below_alloc | apply pw_below_drewN | apply below_drew1) | exact HB.out)⟩⟩
              · rw [if_neg c17] at H
                exact absurd H (by simp)
          · rw [if_neg c4] at H
            exact absurd H (by simp)
        · rw [if_neg c3] at H
          exact absurd H (by simp)
      · rw [if_neg c2] at H
        have c2b0 : decide (x9_1 < (l0.length : Int)) = false := decide_eq_false c2
        clear c2
        obtain rfl := Option.some.inj H
        go_wp2
        go_ret
        exact ⟨_, by first | rfl | (simp [errW_none, errW_some] <;> rfl) | (simp [*, errW_none, errW_some] <;> rfl), by (with_reducible repeat (first | apply Kd.R_alloc | apply Kd.R_drewN | apply Kd.R_drew)); exact HO_3.out, by repeat (first | (with_reducible first | exact HB.out | apply below_alloc | apply pw_below_drewN | apply below_drew1) | exact HB.out)⟩
def runs_Encode.g (k : Nat) : List S98 → ByteArray → Option ByteArray
  | [], acc => some acc
  | x :: xs, acc => (pack_Put.f k x.f0).bind fun a => (pack_Put.f k (IntKind.u64.wrap x.f1)).bind fun b => if acc.size + a.size + b.size ≤ 140737488355328 then runs_Encode.g k xs ((acc ++ a) ++ b) else none
def runs_Encode.f (k : Nat) (l0 : List Int) : Option ByteArray := (runs_of_uint64.f k l0).bind fun t => if t.length < 4611686018427387904 then runs_Encode.g k t ByteArray.empty else none
theorem runs_Encode.mono : ∀ a0 k, LeO (runs_Encode.f k a0) (runs_Encode.f (k + 1) a0) := by
  have hg : ∀ (k : Nat) (l : List S98) (acc : ByteArray), LeO (runs_Encode.g k l acc) (runs_Encode.g (k + 1) l acc) := by
    intro k l
    induction l with
    | nil => intro acc; exact LeO.refl _
    | cons x xs ih =>
      intro acc
      unfold runs_Encode.g
      refine LeO.bind (pack_Put.mono _ _) fun a => LeO.bind (pack_Put.mono _ _) fun b => LeO.ite (ih _) (LeO.refl _)
  intro a0 k
  exact LeO.bind (runs_of_uint64.mono _ _) fun t => LeO.ite (hg k t _) (LeO.refl _)
set_option maxHeartbeats 8000000 in
set_option maxRecDepth 100000 in
theorem runs_Encode.calls (k : Nat) (A0 : Option Addr) (c0 : Nat) (l0 : List Int) (r : ByteArray) (w : World) (hr0 : Kd.C (Kd.int .u64) w A0 l0.length l0) (hc0 : l0.length ≤ c0) (h : runs_Encode.f k l0 = some r) :
    Calls Try.prog 44 #[.slice A0 l0.length c0] w fun e w' => e = .returned (.string r) ∧ Below w.heap.size w w' := by
  have hu98 := Try.underlying98
  have H := h
  clear h
  unfold runs_Encode.f at H
  obtain ⟨t, A20, H⟩ := Option.bind_eq_some_iff.mp H
  have A2 := Aside0.mk A20
  by_cases hlen : t.length < 4611686018427387904
  case neg => rw [if_neg hlen] at H; exact absurd H (by simp)
  rw [if_pos hlen] at H
  have LM := Aside0.mk hlen
  clear hlen
  have H' := Aside0.mk H
  have HR0 := Aside0.mk hr0
  have HC0 := Aside0.mk hc0
  clear A20 H hr0 hc0
  have HB := Aside0.mk (Below.refl w.heap.size w)
  go_enter Try.func44, Try.ntmps44
  go_wp2_with (go_at_call 89; (with_reducible refine (runs_of_uint64.calls k _ _ l0 t _ ?side1 ?side2 A2.out).mono ?_); (case side1 => (with_reducible refine Kd.C_alloc ?_ _); exact HR0.out); (case side2 => exact HC0.out); rintro e w3 ⟨v0, rfl, ho0, hb⟩; obtain ⟨Ao4, co4, eo4⟩ := Kd.R_slice ho0; subst eo4)
  have hbb : w3.heap[w.heap.size]? = some (.cells #[.pointer none, .slice none 0 0] 102 (0, 0)) := by rw [hb.block _ (by show _ < (w.heap.push _).size; simp)]; show (w.heap.push _)[w.heap.size]? = _; simp
  have hBld : Build.Bld w.heap.size w.heap.size ByteArray.empty w3 := (Build.Bld.fresh w).below hb
  have HO := Aside0.mk (Kd.R_lower ho0 (show w.heap.size ≤ (w.alloc (.cells #[.pointer none, .slice none 0 0] 102)).heap.size from by show _ ≤ (w.heap.push _).size; simp))
  have HB3 := Aside0.mk (below_step (by repeat (first | (with_reducible first | exact HB.out | apply below_alloc | apply pw_below_drewN | apply below_drew1) | exact HB.out)) hb)
  have HBl := Aside0.mk hBld
  clear hb ho0 hBld hbb HB
  go_loopg [9] (t.length + 1) (fun kq v9 w' => ∃ (x9 : Int) (acc : ByteArray), v9 = .int .i64 x9 ∧ Aside0 (0 ≤ x9 ∧ x9 ≤ t.length ∧ (kq : Int) + x9 = t.length + 1) ∧ Aside0 (runs_Encode.g k (t.drop x9.toNat) acc = some r) ∧ Aside0 (Build.Bld w.heap.size w.heap.size acc w') ∧ Aside0 (Kd.R k98 98 w' w.heap.size (fun _ => True) (.slice Ao4 t.length co4) t) ∧ Aside0 (Below w.heap.size w w'))
  case atStart => exact ⟨0, ByteArray.empty, by simp, ⟨by omega⟩, H', HBl, HO, HB3⟩
  case round =>
    clear HO HB3 HBl H'
    obtain ⟨x9, acc, rfl, HK, HG, HBl, HO, HB⟩ := hrel
    cases gk with
    | zero => have := HK.out; exact absurd this (by omega)
    | succ k1 =>
      by_cases hi : x9 < (t.length : Int)
      · have c5b0 : decide (x9 < (t.length : Int)) = true := decide_eq_true (by omega)
        have hk9 := HK.out
        have hdrop : t.drop x9.toNat = rd_T98 t x9 :: t.drop (x9.toNat + 1) := by
          rw [List.drop_eq_getElem_cons (show x9.toNat < t.length by omega)]
          congr 1
          unfold rd_T98
          simp [List.getD_eq_getElem?_getD, show x9.toNat < t.length by omega]
        have hG := HG.out
        clear HG
        rw [hdrop] at hG
        unfold runs_Encode.g at hG
        obtain ⟨a, A30, hG⟩ := Option.bind_eq_some_iff.mp hG
        obtain ⟨b, A40, hG⟩ := Option.bind_eq_some_iff.mp hG
        by_cases hz : acc.size + a.size + b.size ≤ 140737488355328
        · rw [if_pos hz] at hG
          have H' := Aside0.mk hG
          have A3 := Aside0.mk A30
          have A4 := Aside0.mk A40
          clear hG A30 A40 hdrop
          have p290 : 0 ≤ x9 := by omega
          have q290 : x9 < (t.length : Int) := by omega
          obtain ⟨ad290, e290, hx290_0, hx290_1⟩ := at_T98 (Kd.R_reads' HO.out).2.2 x9 p290 q290
          cases e290
          have hi0 := Aside0.mk hi
          clear hi hk9
          replace p290 := eq_true p290
          replace q290 := eq_true q290
          go_wp2_with (go_at_call 78; (with_reducible refine (pack_Put.calls k _ a _ A3.out).mono ?_); rintro e w5 ⟨rfl, hb⟩; have n0_ := Aside0.mk ((HBl.out.alloc _).below hb); have n1_ := Aside0.mk (Kd.R_below (Kd.R_alloc HO.out _) hb); have n2_ := Aside0.mk (below_step (by repeat (first | (with_reducible first | exact HB.out | apply below_alloc | apply pw_below_drewN | apply below_drew1) | exact HB.out)) hb); have hk5 := (hb.block wr.heap.size (by show _ < (wr.heap.push _).size; simp)).trans (blk_new wr _); clear HBl HO HB hb hx290_0 hx290_1; have HBl := n0_; have HO := n1_; have HB := n2_; clear n0_ n1_ n2_)
          go_wp2_with (go_at_call 90; (with_reducible refine (Build.write w.heap.size w.heap.size acc a _ HBl.out (by omega) (below_size HB.out)).mono ?_); rintro e w6 ⟨rfl, hbl, hb, hk⟩; obtain ⟨bs, hbs⟩ := HBl.out.block; have n0_ := Aside0.mk (Build.R_kept HO.out hk ⟨bs, hbs⟩ (by decide)); have n2_ := Aside0.mk (HB.out.trans hb); have hk6 := Build.block_kept hk hbs hk5 (by decide); have hc1 : w6.cell? ⟨wr.heap.size, 1, none⟩ = some (.int .i64 (rd_T98 t x9).f1) := (blk_cell hk6 1).trans rfl; clear HBl HO HB hb hk hk5 hbs; have HBl := Aside0.mk hbl; have HO := n0_; have HB := n2_; clear n0_ n2_ hbl)
          go_wp2_with (go_at_call 78; (with_reducible refine (pack_Put.calls k _ b _ A4.out).mono ?_); rintro e w7 ⟨rfl, hb⟩; have n0_ := Aside0.mk (HBl.out.below hb); have n1_ := Aside0.mk (Kd.R_below HO.out hb); have n2_ := Aside0.mk (below_step HB.out hb); clear HBl HO HB hb hc1; have HBl := n0_; have HO := n1_; have HB := n2_; clear n0_ n1_ n2_)
          go_wp2_with (go_at_call 90; (with_reducible refine (Build.write w.heap.size w.heap.size (acc ++ a) b _ HBl.out (by rw [ByteArray.size_append]; omega) (below_size HB.out)).mono ?_); rintro e w8 ⟨rfl, hbl, hb, hk⟩; have n0_ := Aside0.mk (Build.R_kept HO.out hk HBl.out.block (by decide)); have n2_ := Aside0.mk (HB.out.trans hb); clear HBl HO HB hb hk; have HBl := Aside0.mk hbl; have HO := n0_; have HB := n2_; clear n0_ n2_ hbl)
          go_roundg k1
          case measure => have := HK.out; omega
          case rel => exact ⟨wrap64 (x9 + 1), (acc ++ a) ++ b, (by first | rfl | (simp; done) | (simp [*]; done)), ⟨by have := HK.out; have := hi0.out; have := LM.out; unfold wrap64; omega⟩, ⟨by rw [show (wrap64 (x9 + 1)).toNat = x9.toNat + 1 by have := HK.out; have := LM.out; unfold wrap64; omega]; exact H'.out⟩, HBl, HO, HB⟩
        · rw [if_neg hz] at hG
          exact absurd hG (by simp)
      · have c5b0 : decide (x9 < (t.length : Int)) = false := decide_eq_false hi
        have hk9 := HK.out
        have hG := HG.out
        rw [List.drop_eq_nil_of_le (by omega)] at hG
        unfold runs_Encode.g at hG
        obtain rfl := Option.some.inj hG
        clear hG HG hi hk9
        go_wp2_with (go_at_call 91; (with_reducible refine (Build.string w.heap.size w.heap.size acc _ HBl.out (below_size HB.out)).mono ?_); rintro e w9 ⟨rfl, hb, hk⟩; have n2_ := Aside0.mk (HB.out.trans hb); clear HB; have HB := n2_; clear n2_)
        go_ret
        exact ⟨rfl, HB.out⟩
end Go.Proofs.Ytbgjoiccehiglaa.Print
end
section
namespace Go.Proofs.Ytbgjoiccehiglaa.LibV
open Go.RowKit Go.Proofs.Ytbgjoiccehiglaa.Print Go.Proofs.YtbgjoiccehiglaaW.PrintWords Go.Proofs.YtbgjoiccehiglaaW.PrintLast Go.Proofs.YtbgjoiccehiglaaW.PrintMore Go.Proofs.Ytbgjoiccehiglaa.LibU
theorem w64 {n : Int} (h0 : -9223372036854775808 ≤ n) (h1 : n ≤ 9223372036854775807) : wrap64 n = n := by unfold wrap64; omega
def cv (r : S98) : S53 := ⟨r.f0, r.f1⟩
theorem rd98_last (a : List S98) (r : S98) : rd_T98 (a ++ [r]) (a.length : Int) = r := by simp [rd_T98]
theorem set_last {α : Type} (a : List α) (r s : α) : (a ++ [r]).set a.length s = a ++ [s] := by simp
theorem rd53_last (a : List S53) (r : S53) : rd_T53 (a ++ [r]) (a.length : Int) = r := by simp [rd_T53]
theorem drop_rd (l : List Int) (i : Int) (h0 : 0 ≤ i) (h : i < l.length) : l.drop i.toNat = rd l i :: l.drop (i + 1).toNat := by
  rw [List.drop_eq_getElem_cons (show i.toNat < l.length by omega), show (i + 1).toNat = i.toNat + 1 by omega]
  congr 1
  unfold rd
  simp [List.getD_eq_getElem?_getD, show i.toNat < l.length by omega]
theorem of_l (l : List Int) (hl : (l.length : Int) ≤ 1000000000000) : ∀ (d k : Nat) (acc : List S98) (i : Int), 0 ≤ i → i + d = l.length → d + 1 ≤ k → (acc.length : Int) ≤ i → (∀ r ∈ acc, 0 ≤ r.f1 ∧ r.f1 ≤ i) →
    ∃ acc', runs_of_uint64.l0 k acc l (l.length : Int) i = some acc' ∧ acc'.map cv = (l.drop i.toNat).foldl addR (acc.map cv)
  | 0, k, acc, i, h0, hd, hk, hs, hc => by
    obtain ⟨k, rfl⟩ : ∃ k', k = k' + 1 := ⟨k - 1, by omega⟩
    refine ⟨acc, ?_, ?_⟩
    · unfold runs_of_uint64.l0
      rw [if_neg (by omega)]
    · rw [List.drop_eq_nil_of_le (by omega)]
      rfl
  | d + 1, k, acc, i, h0, hd, hk, hs, hc => by
    obtain ⟨k, rfl⟩ : ∃ k', k = k' + 1 := ⟨k - 1, by omega⟩
    have hi : i < (l.length : Int) := by omega
    rw [drop_rd l i h0 hi]
    unfold runs_of_uint64.l0
    rw [if_pos hi, if_pos h0, if_pos hi]
    rw [show wrap64 (i + 1) = i + 1 from w64 (by omega) (by omega)]
    rcases snoc_cases acc with rfl | ⟨a, r, rfl⟩
    · rw [if_neg (by simp [w64])]
      rw [if_pos (by simp)]
      obtain ⟨acc', h1, h2⟩ := of_l l hl d k ([] ++ [(⟨rd l i, 1⟩ : S98)]) (i + 1) (by omega) (by omega) (by omega) (by simp; omega) (fun r hr => by simp at hr; subst hr; simp; omega)
      exact ⟨acc', h1, h2⟩
    · have hlen : ((a ++ [r]).length : Int) = (a.length : Int) + 1 := by simp
      have hw : wrap64 (((a ++ [r]).length : Int) - 1) = (a.length : Int) := by rw [hlen, w64 (by omega) (by omega)]; omega
      rw [hw, if_pos (by omega), if_pos (by omega), if_pos (by omega), rd98_last, show ((a.length : Int)).toNat = a.length from rfl, set_last]
      have hr := hc r (by simp)
      rw [show wrap64 (r.f1 + 1) = r.f1 + 1 from w64 (by omega) (by omega)]
      rw [List.map_append, List.foldl_cons]
      show ∃ acc', _ ∧ _ = List.foldl addR (addR (a.map cv ++ [cv r]) (rd l i)) _
      rw [addR_snoc]
      by_cases he : r.f0 = rd l i
      · rw [if_pos he, if_pos (show (cv r).f0 = rd l i from he)]
        obtain ⟨acc', h1, h2⟩ := of_l l hl d k (a ++ [(⟨r.f0, r.f1 + 1⟩ : S98)]) (i + 1) (by omega) (by omega) (by omega) (by simp at hs ⊢; omega)
          (fun q hq => by
            rcases List.mem_append.mp hq with h | h
            · have := hc q (by simp [h]); omega
            · simp at h; subst h; simp only; omega)
        refine ⟨acc', h1, h2.trans ?_⟩
        rw [List.map_append]
        rfl
      · rw [if_neg he, if_neg (show ¬ (cv r).f0 = rd l i from he), if_pos (by simp at hs; simp; omega)]
        obtain ⟨acc', h1, h2⟩ := of_l l hl d k (a ++ [r] ++ [(⟨rd l i, 1⟩ : S98)]) (i + 1) (by omega) (by omega) (by omega) (by simp at hs ⊢; omega)
          (fun q hq => by
            rcases List.mem_append.mp hq with h | h
            · have := hc q h; omega
            · simp at h; subst h; simp only; omega)
        refine ⟨acc', h1, h2.trans ?_⟩
        rw [List.map_append, List.map_append]
        rfl
theorem of_is (l : List Int) (hl : (l.length : Int) ≤ 1000000000000) (k : Nat) (hk : l.length + 1 ≤ k) : ∃ r98, runs_of_uint64.f k l = some r98 ∧ r98.map cv = runs l := by
  obtain ⟨acc', h1, h2⟩ := of_l l hl l.length k [] 0 (by omega) (by omega) hk (by simp) (by simp)
  exact ⟨acc', h1, h2⟩
end Go.Proofs.Ytbgjoiccehiglaa.LibV
end
section
namespace Go.Proofs.Ytbgjoiccehiglaa.LibA
open Go.RowKit Go.Proofs.Ytbgjoiccehiglaa.Print Go.Proofs.YtbgjoiccehiglaaW.PrintWords Go.Proofs.YtbgjoiccehiglaaW.PrintLast
def SgAt (s : ByteArray) (i m : Int) : Prop :=
  (sgH (bt s i)).2.2.2 = true ∧ m = 1 + (sgH (bt s i)).1 ∧ i + m ≤ s.size ∧ sgR s (sgH (bt s i)).1.toNat (i + 1) (sgH (bt s i)).2.1 (sgH (bt s i)).2.2.1 = true
theorem sgStep_some {s : ByteArray} {i m : Int} : sgStep s i = some m ↔ SgAt s i m := by
  unfold sgStep SgAt
  constructor
  · intro h
    split at h
    · cases h
    · split at h
      · cases h
      · split at h
        · cases h
          rename_i h1 h2 h3
          exact ⟨by simpa using h1, rfl, by omega, h3⟩
        · cases h
  · rintro ⟨h1, rfl, h3, h4⟩
    rw [if_neg (by simp [h1]), if_neg (by omega), if_pos h4]
theorem SgAt.pos {s : ByteArray} {i m : Int} (h : SgAt s i m) : 1 ≤ m ∧ m ≤ 4 ∧ i + m ≤ s.size := by
  have := sgH_rest (bt s i)
  obtain ⟨_, rfl, h3, _⟩ := h
  omega
theorem SgAt.det {s : ByteArray} {i m m' : Int} (h : SgAt s i m) (h' : SgAt s i m') : m = m' := by
  rw [h.2.1, h'.2.1]
inductive Ch (s : ByteArray) : Nat → Int → Int → Prop
  | nil (i : Int) : Ch s 0 i i
  | cons {n : Nat} {i m j : Int} (h : SgAt s i m) (t : Ch s n (i + m) j) : Ch s (n + 1) i j
theorem Ch.le {s : ByteArray} {n : Nat} {i j : Int} (h : Ch s n i j) : i + n ≤ j ∧ j ≤ i + 4 * n := by
  induction h with
  | nil => omega
  | cons h t ih => have := h.pos; omega
theorem Ch.size {s : ByteArray} {n : Nat} {i j : Int} (h : Ch s n i j) (hi : i ≤ s.size) : j ≤ s.size := by
  induction h with
  | nil => exact hi
  | cons h t ih => exact ih h.pos.2.2
theorem Ch.snoc {s : ByteArray} {n : Nat} {i j m : Int} (h : Ch s n i j) (hm : SgAt s j m) : Ch s (n + 1) i (j + m) := by
  induction h with
  | nil => exact .cons hm (.nil _)
  | cons h t ih => exact .cons h (ih hm)
theorem Ch.trans {s : ByteArray} {n n' : Nat} {i j k : Int} (h : Ch s n i j) (h' : Ch s n' j k) : Ch s (n + n') i k := by
  induction h with
  | nil => simpa using h'
  | cons h t ih => rw [show ∀ a b : Nat, a + 1 + b = (a + b) + 1 by omega]; exact .cons h (ih h')
theorem Ch.split {s : ByteArray} {n n' : Nat} {i j j' : Int} (h : Ch s n i j) (h' : Ch s n' i j') : (∃ c, n' = n + c ∧ Ch s c j j') ∨ (∃ c m, SgAt s j' m ∧ Ch s c (j' + m) j) := by
  induction h generalizing n' with
  | nil => exact .inl ⟨n', by omega, h'⟩
  | cons h t ih =>
    cases h' with
    | nil => exact .inr ⟨_, _, h, t⟩
    | cons h2 t2 =>
      have := h.det h2
      subst this
      rcases ih t2 with ⟨c, hc, hch⟩ | r
      · exact .inl ⟨c, by omega, hch⟩
      · exact .inr r
theorem sgL_ch (s : ByteArray) : ∀ (k : Nat) (n i : Int), 0 ≤ i → i ≤ s.size → (s.size : Int) - i < k → ∃ c : Nat, ∃ j : Int, sgL s k n i = (n + c, j) ∧ Ch s c i j ∧ j ≤ s.size ∧ ∀ m, ¬ SgAt s j m
  | 0, n, i, h0, h1, hk => by omega
  | k + 1, n, i, h0, h1, hk => by
    simp only [sgL]
    by_cases hi : i < (s.size : Int)
    · rw [if_pos hi]
      cases hs : sgStep s i with
      | none => exact ⟨0, i, by simp, .nil _, h1, fun m hm => by rw [sgStep_some.mpr hm] at hs; cases hs⟩
      | some m =>
        have hm := sgStep_some.mp hs
        have := hm.pos
        obtain ⟨c, j, h, hc, hj, hn⟩ := sgL_ch s k (n + 1) (i + m) (by omega) (by omega) (by omega)
        exact ⟨c + 1, j, by show sgL s k (n + 1) (i + m) = _; rw [h, show n + 1 + (c : Int) = n + ((c + 1 : Nat) : Int) by omega], .cons hm hc, hj, hn⟩
    · rw [if_neg hi]
      refine ⟨0, i, by simp, .nil _, h1, fun m hm => ?_⟩
      have := hm.pos
      omega
theorem signs_ch (s : ByteArray) : ∃ c : Nat, ∃ j : Int, sgL s (s.size + 1) 0 0 = ((c : Int), j) ∧ Ch s c 0 j ∧ 0 ≤ j ∧ j ≤ s.size ∧ ∀ m, ¬ SgAt s j m := by
  obtain ⟨c, j, h, hc, hj, hn⟩ := sgL_ch s (s.size + 1) 0 0 (by omega) (by omega) (by omega)
  exact ⟨c, j, by rw [h]; simp, hc, by have := hc.le; omega, hj, hn⟩
def Vld (s : ByteArray) : Prop := ∃ c, Ch s c 0 s.size
theorem vld_iff {s : ByteArray} {c : Nat} {j : Int} (h : Ch s c 0 j) (hn : ∀ m, ¬ SgAt s j m) (hj : j ≤ s.size) : Vld s ↔ j = s.size := by
  constructor
  · rintro ⟨c', h'⟩
    rcases h.split h' with ⟨c2, _, h2⟩ | ⟨c2, m, hm, h2⟩
    · cases h2 with
      | nil => rfl
      | cons hm _ => exact absurd hm (hn _)
    · have := hm.pos
      omega
  · rintro rfl
    exact ⟨c, h⟩
theorem bt_take {s : ByteArray} {n : Nat} (hn : n ≤ s.size) {d : Int} (h0 : 0 ≤ d) (h1 : d < n) : bt (s.extract 0 n) d = bt s d := by
  unfold bt
  rw [dif_pos (by rw [ByteArray.size_extract]; omega), dif_pos (by omega)]
  simp [ByteArray.getElem_extract]
theorem bt_drop {s : ByteArray} {a n : Nat} (hn : n ≤ s.size) {d : Int} (h0 : 0 ≤ d) (h1 : a + d < n) : bt (s.extract a n) d = bt s (a + d) := by
  unfold bt
  rw [dif_pos (by rw [ByteArray.size_extract]; omega), dif_pos (by omega)]
  have e : a + d.toNat = ((a : Int) + d).toNat := by omega
  simp only [ByteArray.getElem_extract, e]
theorem size_take {s : ByteArray} {n : Nat} (hn : n ≤ s.size) : (s.extract 0 n).size = n := by rw [ByteArray.size_extract]; omega
end Go.Proofs.Ytbgjoiccehiglaa.LibA
end
section
namespace Go.Proofs.Ytbgjoiccehiglaa.Print
open Go.RowKit Go.Proofs.YtbgjoiccehiglaaW.PrintWords Go.Proofs.YtbgjoiccehiglaaW.PrintLast Go.Proofs.YtbgjoiccehiglaaW.PrintMore
attribute [local go_sem] max2_int min2_int max_two min_two max_three min_three max_four min_four
set_option linter.unusedVariables false
set_option linter.unusedSimpArgs false
theorem in_val (s : ByteArray) (i lo hi : Int) (h : 0 ≤ i) : bonsairef04_in.f s i lo hi = some (decide (i < s.size ∧ lo ≤ bt s i ∧ bt s i ≤ hi)) := by
  have hr := bt_range s i
  have hw : wrap64 (bt s i) = bt s i := by unfold wrap64; omega
  unfold bonsairef04_in.f
  rw [hw]
  by_cases h1 : i < (s.size : Int)
  · rw [if_pos h1, if_pos h]
    by_cases h2 : bt s i ≥ lo
    · rw [if_pos h2]; congr 1; simp only [decide_eq_decide]; omega
    · rw [if_neg h2]; congr 1; symm; simp only [decide_eq_false_iff_not]; omega
  · rw [if_neg h1]; congr 1; symm; simp only [decide_eq_false_iff_not]; omega
theorem in_yes (s : ByteArray) (i lo hi : Int) (w : World) (h : 0 ≤ i ∧ i < s.size ∧ lo ≤ bt s i ∧ bt s i ≤ hi) :
    Calls Try.prog 97 #[.string s, .int .i64 i, .int .i64 lo, .int .i64 hi] w fun e w' => e = .returned (.bool true) ∧ ∃ n, w' = w.drewN n :=
  (bonsairef04_in.calls s i lo hi true w (by rw [in_val s i lo hi h.1]; simp; omega)).mono fun _ _ h => ⟨h.1, h.2.out⟩
theorem in_no (s : ByteArray) (i lo hi : Int) (w : World) (h : 0 ≤ i ∧ (s.size ≤ i ∨ bt s i < lo ∨ hi < bt s i)) :
    Calls Try.prog 97 #[.string s, .int .i64 i, .int .i64 lo, .int .i64 hi] w fun e w' => e = .returned (.bool false) ∧ ∃ n, w' = w.drewN n :=
  (bonsairef04_in.calls s i lo hi false w (by rw [in_val s i lo hi h.1]; simp; omega)).mono fun _ _ h => ⟨h.1, h.2.out⟩
theorem sgStep_getD (s : ByteArray) (i : Int) : (sgStep s i).getD 0 =
    if (sgH (bt s i)).2.2.2 = false then 0 else if (s.size : Int) - i ≤ (sgH (bt s i)).1 then 0
    else if sgR s (sgH (bt s i)).1.toNat (i + 1) (sgH (bt s i)).2.1 (sgH (bt s i)).2.2.1 = true then 1 + (sgH (bt s i)).1 else 0 := by
  unfold sgStep
  repeat' split
  all_goals rfl
theorem sgH_is (b : Int) : sgH b = if b < 128 then (0, 128, 191, true) else (if b < 194 then (0, 128, 191, false) else (if b < 224 then (1, 128, 191, true) else (if b < 240 then (if b = 224 then (2, 160, 191, true) else (if b = 237 then (2, 128, 159, true) else (2, 128, 191, true))) else (if b < 245 then (if b = 240 then (3, 144, 191, true) else (if b = 244 then (3, 128, 143, true) else (3, 128, 191, true))) else (0, 128, 191, false))))) := rfl
theorem sgR_0 (s : ByteArray) (i lo hi : Int) : (sgR s (0 : Int).toNat i lo hi = true) = True := by simp [sgR]
theorem sgR_1 (s : ByteArray) (i lo hi : Int) : (sgR s (1 : Int).toNat i lo hi = true) = (lo ≤ bt s i ∧ bt s i ≤ hi) := by
  show (sgR s 1 i lo hi = true) = _
  simp only [sgR, eq_iff_iff]
  (repeat' split) <;> simp <;> omega
theorem sgR_2 (s : ByteArray) (i lo hi : Int) : (sgR s (2 : Int).toNat i lo hi = true) = (lo ≤ bt s i ∧ bt s i ≤ hi ∧ 128 ≤ bt s (i + 1) ∧ bt s (i + 1) ≤ 191) := by
  show (sgR s 2 i lo hi = true) = _
  simp only [sgR, eq_iff_iff]
  (repeat' split) <;> simp <;> omega
theorem sgR_3 (s : ByteArray) (i lo hi : Int) : (sgR s (3 : Int).toNat i lo hi = true) = (lo ≤ bt s i ∧ bt s i ≤ hi ∧ 128 ≤ bt s (i + 1) ∧ bt s (i + 1) ≤ 191 ∧ 128 ≤ bt s (i + 1 + 1) ∧ bt s (i + 1 + 1) ≤ 191) := by
  show (sgR s 3 i lo hi = true) = _
  simp only [sgR, eq_iff_iff]
  (repeat' split) <;> simp <;> omega
def bonsairef04_sign.f (s : ByteArray) (i : Int) : Option Int := if 0 ≤ i ∧ i < s.size ∧ s.size ≤ 9223372036854775000 then some ((sgStep s i).getD 0) else none
def SignSaid (s : ByteArray) (i : Int) (w : World) : Prop := Calls Try.prog 77 #[.string s, .int .i64 i] w fun e w' => e = .returned (.int .i64 ((sgStep s i).getD 0)) ∧ Drawn0 w w'
set_option maxHeartbeats 8000000 in
set_option maxRecDepth 100000 in
theorem sign_asc0 (s : ByteArray) (i : Int) (w : World) (h0 : 0 ≤ i) (hi : i < s.size) (hs : s.size ≤ 9223372036854775000) (hr : 0 ≤ bt s i) (cb : bt s i < 128)  : SignSaid s i w := by
  have hv : (sgStep s i).getD 0 = 1 := by
    have hH := sgH_is (bt s i)
    repeat (first | rw [if_pos (by omega)] at hH | rw [if_neg (by omega)] at hH)
    rw [sgStep_getD, hH]
    try simp only [sgR_0, sgR_1, sgR_2, sgR_3, reduceCtorEq, if_false, if_true, show i + 1 + 1 = i + 2 by omega, show i + 2 + 1 = i + 3 by omega]
    (try repeat (first | rw [if_pos (by omega)] | rw [if_neg (by omega)]))
    all_goals first | rfl | ((repeat' split) <;> first | rfl | omega)
  unfold SignSaid
  rw [hv]
  clear hv
  go_enter Try.func77, Try.ntmps77
  go_wp2_with (first | (go_at_call 97; (with_reducible refine (in_yes _ _ _ _ _ (by omega)).mono ?_); rintro e w' ⟨rfl, ⟨nd, rfl⟩⟩) | (go_at_call 97; (with_reducible refine (in_no _ _ _ _ _ (by omega)).mono ?_); rintro e w' ⟨rfl, ⟨nd, rfl⟩⟩))
  go_ret
  exact ⟨rfl, by repeat (first | exact Drawn0.refl _ | apply Drawn0.step)⟩
set_option maxHeartbeats 8000000 in
set_option maxRecDepth 100000 in
theorem sign_bad0 (s : ByteArray) (i : Int) (w : World) (h0 : 0 ≤ i) (hi : i < s.size) (hs : s.size ≤ 9223372036854775000) (hr : 0 ≤ bt s i) (cb : (128 ≤ bt s i ∧ bt s i < 194 ∨ 245 ≤ bt s i)) (c1 : (s.size ≤ i + 2 ∨ bt s (i + 2) < 128 ∨ 191 < bt s (i + 2))) : SignSaid s i w := by
  have hv : (sgStep s i).getD 0 = 0 := by
    rcases cb with cb | cb
    all_goals
      have hH := sgH_is (bt s i)
      repeat (first | rw [if_pos (by omega)] at hH | rw [if_neg (by omega)] at hH)
      rw [sgStep_getD, hH]
      try simp only [sgR_0, sgR_1, sgR_2, sgR_3, reduceCtorEq, if_false, if_true, show i + 1 + 1 = i + 2 by omega, show i + 2 + 1 = i + 3 by omega]
      (try repeat (first | rw [if_pos (by omega)] | rw [if_neg (by omega)]))
      all_goals first | rfl | ((repeat' split) <;> first | rfl | omega)
  unfold SignSaid
  rw [hv]
  clear hv
  go_enter Try.func77, Try.ntmps77
  go_wp2_with (first | (go_at_call 97; (with_reducible refine (in_yes _ _ _ _ _ (by omega)).mono ?_); rintro e w' ⟨rfl, ⟨nd, rfl⟩⟩) | (go_at_call 97; (with_reducible refine (in_no _ _ _ _ _ (by omega)).mono ?_); rintro e w' ⟨rfl, ⟨nd, rfl⟩⟩))
  go_ret
  exact ⟨rfl, by repeat (first | exact Drawn0.refl _ | apply Drawn0.step)⟩
set_option maxHeartbeats 8000000 in
set_option maxRecDepth 100000 in
theorem sign_bad1 (s : ByteArray) (i : Int) (w : World) (h0 : 0 ≤ i) (hi : i < s.size) (hs : s.size ≤ 9223372036854775000) (hr : 0 ≤ bt s i) (cb : (128 ≤ bt s i ∧ bt s i < 194 ∨ 245 ≤ bt s i)) (c1 : (i + 2 < s.size ∧ 128 ≤ bt s (i + 2) ∧ bt s (i + 2) ≤ 191)) (c2 : (s.size ≤ i + 3 ∨ bt s (i + 3) < 128 ∨ 191 < bt s (i + 3))) : SignSaid s i w := by
  have hv : (sgStep s i).getD 0 = 0 := by
    rcases cb with cb | cb
    all_goals
      have hH := sgH_is (bt s i)
      repeat (first | rw [if_pos (by omega)] at hH | rw [if_neg (by omega)] at hH)
      rw [sgStep_getD, hH]
      try simp only [sgR_0, sgR_1, sgR_2, sgR_3, reduceCtorEq, if_false, if_true, show i + 1 + 1 = i + 2 by omega, show i + 2 + 1 = i + 3 by omega]
      (try repeat (first | rw [if_pos (by omega)] | rw [if_neg (by omega)]))
      all_goals first | rfl | ((repeat' split) <;> first | rfl | omega)
  unfold SignSaid
  rw [hv]
  clear hv
  go_enter Try.func77, Try.ntmps77
  go_wp2_with (first | (go_at_call 97; (with_reducible refine (in_yes _ _ _ _ _ (by omega)).mono ?_); rintro e w' ⟨rfl, ⟨nd, rfl⟩⟩) | (go_at_call 97; (with_reducible refine (in_no _ _ _ _ _ (by omega)).mono ?_); rintro e w' ⟨rfl, ⟨nd, rfl⟩⟩))
  go_ret
  exact ⟨rfl, by repeat (first | exact Drawn0.refl _ | apply Drawn0.step)⟩
set_option maxHeartbeats 8000000 in
set_option maxRecDepth 100000 in
theorem sign_bad2 (s : ByteArray) (i : Int) (w : World) (h0 : 0 ≤ i) (hi : i < s.size) (hs : s.size ≤ 9223372036854775000) (hr : 0 ≤ bt s i) (cb : (128 ≤ bt s i ∧ bt s i < 194 ∨ 245 ≤ bt s i)) (c1 : (i + 2 < s.size ∧ 128 ≤ bt s (i + 2) ∧ bt s (i + 2) ≤ 191)) (c2 : (i + 3 < s.size ∧ 128 ≤ bt s (i + 3) ∧ bt s (i + 3) ≤ 191)) : SignSaid s i w := by
  have hv : (sgStep s i).getD 0 = 0 := by
    rcases cb with cb | cb
    all_goals
      have hH := sgH_is (bt s i)
      repeat (first | rw [if_pos (by omega)] at hH | rw [if_neg (by omega)] at hH)
      rw [sgStep_getD, hH]
      try simp only [sgR_0, sgR_1, sgR_2, sgR_3, reduceCtorEq, if_false, if_true, show i + 1 + 1 = i + 2 by omega, show i + 2 + 1 = i + 3 by omega]
      (try repeat (first | rw [if_pos (by omega)] | rw [if_neg (by omega)]))
      all_goals first | rfl | ((repeat' split) <;> first | rfl | omega)
  unfold SignSaid
  rw [hv]
  clear hv
  go_enter Try.func77, Try.ntmps77
  go_wp2_with (first | (go_at_call 97; (with_reducible refine (in_yes _ _ _ _ _ (by omega)).mono ?_); rintro e w' ⟨rfl, ⟨nd, rfl⟩⟩) | (go_at_call 97; (with_reducible refine (in_no _ _ _ _ _ (by omega)).mono ?_); rintro e w' ⟨rfl, ⟨nd, rfl⟩⟩))
  go_ret
  exact ⟨rfl, by repeat (first | exact Drawn0.refl _ | apply Drawn0.step)⟩
set_option maxHeartbeats 8000000 in
set_option maxRecDepth 100000 in
theorem sign_two0 (s : ByteArray) (i : Int) (w : World) (h0 : 0 ≤ i) (hi : i < s.size) (hs : s.size ≤ 9223372036854775000) (hr : 0 ≤ bt s i) (cb : 194 ≤ bt s i ∧ bt s i < 224) (c1 : (i + 1 < s.size ∧ 128 ≤ bt s (i + 1) ∧ bt s (i + 1) ≤ 191)) : SignSaid s i w := by
  have hv : (sgStep s i).getD 0 = 2 := by
    have hH := sgH_is (bt s i)
    repeat (first | rw [if_pos (by omega)] at hH | rw [if_neg (by omega)] at hH)
    rw [sgStep_getD, hH]
    try simp only [sgR_0, sgR_1, sgR_2, sgR_3, reduceCtorEq, if_false, if_true, show i + 1 + 1 = i + 2 by omega, show i + 2 + 1 = i + 3 by omega]
    (try repeat (first | rw [if_pos (by omega)] | rw [if_neg (by omega)]))
    all_goals first | rfl | ((repeat' split) <;> first | rfl | omega)
  unfold SignSaid
  rw [hv]
  clear hv
  go_enter Try.func77, Try.ntmps77
  go_wp2_with (first | (go_at_call 97; (with_reducible refine (in_yes _ _ _ _ _ (by omega)).mono ?_); rintro e w' ⟨rfl, ⟨nd, rfl⟩⟩) | (go_at_call 97; (with_reducible refine (in_no _ _ _ _ _ (by omega)).mono ?_); rintro e w' ⟨rfl, ⟨nd, rfl⟩⟩))
  go_ret
  exact ⟨rfl, by repeat (first | exact Drawn0.refl _ | apply Drawn0.step)⟩
set_option maxHeartbeats 8000000 in
set_option maxRecDepth 100000 in
theorem sign_two1 (s : ByteArray) (i : Int) (w : World) (h0 : 0 ≤ i) (hi : i < s.size) (hs : s.size ≤ 9223372036854775000) (hr : 0 ≤ bt s i) (cb : 194 ≤ bt s i ∧ bt s i < 224) (c1 : (s.size ≤ i + 1 ∨ bt s (i + 1) < 128 ∨ 191 < bt s (i + 1))) (c2 : (s.size ≤ i + 2 ∨ bt s (i + 2) < 128 ∨ 191 < bt s (i + 2))) : SignSaid s i w := by
  have hv : (sgStep s i).getD 0 = 0 := by
    have hH := sgH_is (bt s i)
    repeat (first | rw [if_pos (by omega)] at hH | rw [if_neg (by omega)] at hH)
    rw [sgStep_getD, hH]
    try simp only [sgR_0, sgR_1, sgR_2, sgR_3, reduceCtorEq, if_false, if_true, show i + 1 + 1 = i + 2 by omega, show i + 2 + 1 = i + 3 by omega]
    (try repeat (first | rw [if_pos (by omega)] | rw [if_neg (by omega)]))
    all_goals first | rfl | ((repeat' split) <;> first | rfl | omega)
  unfold SignSaid
  rw [hv]
  clear hv
  go_enter Try.func77, Try.ntmps77
  go_wp2_with (first | (go_at_call 97; (with_reducible refine (in_yes _ _ _ _ _ (by omega)).mono ?_); rintro e w' ⟨rfl, ⟨nd, rfl⟩⟩) | (go_at_call 97; (with_reducible refine (in_no _ _ _ _ _ (by omega)).mono ?_); rintro e w' ⟨rfl, ⟨nd, rfl⟩⟩))
  go_ret
  exact ⟨rfl, by repeat (first | exact Drawn0.refl _ | apply Drawn0.step)⟩
set_option maxHeartbeats 8000000 in
set_option maxRecDepth 100000 in
theorem sign_two2 (s : ByteArray) (i : Int) (w : World) (h0 : 0 ≤ i) (hi : i < s.size) (hs : s.size ≤ 9223372036854775000) (hr : 0 ≤ bt s i) (cb : 194 ≤ bt s i ∧ bt s i < 224) (c1 : (s.size ≤ i + 1 ∨ bt s (i + 1) < 128 ∨ 191 < bt s (i + 1))) (c2 : (i + 2 < s.size ∧ 128 ≤ bt s (i + 2) ∧ bt s (i + 2) ≤ 191)) (c3 : (s.size ≤ i + 3 ∨ bt s (i + 3) < 128 ∨ 191 < bt s (i + 3))) : SignSaid s i w := by
  have hv : (sgStep s i).getD 0 = 0 := by
    have hH := sgH_is (bt s i)
    repeat (first | rw [if_pos (by omega)] at hH | rw [if_neg (by omega)] at hH)
    rw [sgStep_getD, hH]
    try simp only [sgR_0, sgR_1, sgR_2, sgR_3, reduceCtorEq, if_false, if_true, show i + 1 + 1 = i + 2 by omega, show i + 2 + 1 = i + 3 by omega]
    (try repeat (first | rw [if_pos (by omega)] | rw [if_neg (by omega)]))
    all_goals first | rfl | ((repeat' split) <;> first | rfl | omega)
  unfold SignSaid
  rw [hv]
  clear hv
  go_enter Try.func77, Try.ntmps77
  go_wp2_with (first | (go_at_call 97; (with_reducible refine (in_yes _ _ _ _ _ (by omega)).mono ?_); rintro e w' ⟨rfl, ⟨nd, rfl⟩⟩) | (go_at_call 97; (with_reducible refine (in_no _ _ _ _ _ (by omega)).mono ?_); rintro e w' ⟨rfl, ⟨nd, rfl⟩⟩))
  go_ret
  exact ⟨rfl, by repeat (first | exact Drawn0.refl _ | apply Drawn0.step)⟩
set_option maxHeartbeats 8000000 in
set_option maxRecDepth 100000 in
theorem sign_two3 (s : ByteArray) (i : Int) (w : World) (h0 : 0 ≤ i) (hi : i < s.size) (hs : s.size ≤ 9223372036854775000) (hr : 0 ≤ bt s i) (cb : 194 ≤ bt s i ∧ bt s i < 224) (c1 : (s.size ≤ i + 1 ∨ bt s (i + 1) < 128 ∨ 191 < bt s (i + 1))) (c2 : (i + 2 < s.size ∧ 128 ≤ bt s (i + 2) ∧ bt s (i + 2) ≤ 191)) (c3 : (i + 3 < s.size ∧ 128 ≤ bt s (i + 3) ∧ bt s (i + 3) ≤ 191)) : SignSaid s i w := by
  have hv : (sgStep s i).getD 0 = 0 := by
    have hH := sgH_is (bt s i)
    repeat (first | rw [if_pos (by omega)] at hH | rw [if_neg (by omega)] at hH)
    rw [sgStep_getD, hH]
    try simp only [sgR_0, sgR_1, sgR_2, sgR_3, reduceCtorEq, if_false, if_true, show i + 1 + 1 = i + 2 by omega, show i + 2 + 1 = i + 3 by omega]
    (try repeat (first | rw [if_pos (by omega)] | rw [if_neg (by omega)]))
    all_goals first | rfl | ((repeat' split) <;> first | rfl | omega)
  unfold SignSaid
  rw [hv]
  clear hv
  go_enter Try.func77, Try.ntmps77
  go_wp2_with (first | (go_at_call 97; (with_reducible refine (in_yes _ _ _ _ _ (by omega)).mono ?_); rintro e w' ⟨rfl, ⟨nd, rfl⟩⟩) | (go_at_call 97; (with_reducible refine (in_no _ _ _ _ _ (by omega)).mono ?_); rintro e w' ⟨rfl, ⟨nd, rfl⟩⟩))
  go_ret
  exact ⟨rfl, by repeat (first | exact Drawn0.refl _ | apply Drawn0.step)⟩
set_option maxHeartbeats 8000000 in
set_option maxRecDepth 100000 in
theorem sign_e00 (s : ByteArray) (i : Int) (w : World) (h0 : 0 ≤ i) (hi : i < s.size) (hs : s.size ≤ 9223372036854775000) (hr : 0 ≤ bt s i) (cb : bt s i = 224) (c1 : (s.size ≤ i + 2 ∨ bt s (i + 2) < 128 ∨ 191 < bt s (i + 2))) : SignSaid s i w := by
  have hv : (sgStep s i).getD 0 = 0 := by
    have hH := sgH_is (bt s i)
    repeat (first | rw [if_pos (by omega)] at hH | rw [if_neg (by omega)] at hH)
    rw [sgStep_getD, hH]
    try simp only [sgR_0, sgR_1, sgR_2, sgR_3, reduceCtorEq, if_false, if_true, show i + 1 + 1 = i + 2 by omega, show i + 2 + 1 = i + 3 by omega]
    (try repeat (first | rw [if_pos (by omega)] | rw [if_neg (by omega)]))
    all_goals first | rfl | ((repeat' split) <;> first | rfl | omega)
  unfold SignSaid
  rw [hv]
  clear hv
  go_enter Try.func77, Try.ntmps77
  go_wp2_with (first | (go_at_call 97; (with_reducible refine (in_yes _ _ _ _ _ (by omega)).mono ?_); rintro e w' ⟨rfl, ⟨nd, rfl⟩⟩) | (go_at_call 97; (with_reducible refine (in_no _ _ _ _ _ (by omega)).mono ?_); rintro e w' ⟨rfl, ⟨nd, rfl⟩⟩))
  go_ret
  exact ⟨rfl, by repeat (first | exact Drawn0.refl _ | apply Drawn0.step)⟩
set_option maxHeartbeats 8000000 in
set_option maxRecDepth 100000 in
theorem sign_e01 (s : ByteArray) (i : Int) (w : World) (h0 : 0 ≤ i) (hi : i < s.size) (hs : s.size ≤ 9223372036854775000) (hr : 0 ≤ bt s i) (cb : bt s i = 224) (c1 : (i + 2 < s.size ∧ 128 ≤ bt s (i + 2) ∧ bt s (i + 2) ≤ 191)) (c2 : (i + 1 < s.size ∧ 160 ≤ bt s (i + 1) ∧ bt s (i + 1) ≤ 191)) : SignSaid s i w := by
  have hv : (sgStep s i).getD 0 = 3 := by
    have hH := sgH_is (bt s i)
    repeat (first | rw [if_pos (by omega)] at hH | rw [if_neg (by omega)] at hH)
    rw [sgStep_getD, hH]
    try simp only [sgR_0, sgR_1, sgR_2, sgR_3, reduceCtorEq, if_false, if_true, show i + 1 + 1 = i + 2 by omega, show i + 2 + 1 = i + 3 by omega]
    (try repeat (first | rw [if_pos (by omega)] | rw [if_neg (by omega)]))
    all_goals first | rfl | ((repeat' split) <;> first | rfl | omega)
  unfold SignSaid
  rw [hv]
  clear hv
  go_enter Try.func77, Try.ntmps77
  go_wp2_with (first | (go_at_call 97; (with_reducible refine (in_yes _ _ _ _ _ (by omega)).mono ?_); rintro e w' ⟨rfl, ⟨nd, rfl⟩⟩) | (go_at_call 97; (with_reducible refine (in_no _ _ _ _ _ (by omega)).mono ?_); rintro e w' ⟨rfl, ⟨nd, rfl⟩⟩))
  go_ret
  exact ⟨rfl, by repeat (first | exact Drawn0.refl _ | apply Drawn0.step)⟩
set_option maxHeartbeats 8000000 in
set_option maxRecDepth 100000 in
theorem sign_e02 (s : ByteArray) (i : Int) (w : World) (h0 : 0 ≤ i) (hi : i < s.size) (hs : s.size ≤ 9223372036854775000) (hr : 0 ≤ bt s i) (cb : bt s i = 224) (c1 : (i + 2 < s.size ∧ 128 ≤ bt s (i + 2) ∧ bt s (i + 2) ≤ 191)) (c2 : (s.size ≤ i + 1 ∨ bt s (i + 1) < 160 ∨ 191 < bt s (i + 1))) (c3 : (s.size ≤ i + 3 ∨ bt s (i + 3) < 128 ∨ 191 < bt s (i + 3))) : SignSaid s i w := by
  have hv : (sgStep s i).getD 0 = 0 := by
    have hH := sgH_is (bt s i)
    repeat (first | rw [if_pos (by omega)] at hH | rw [if_neg (by omega)] at hH)
    rw [sgStep_getD, hH]
    try simp only [sgR_0, sgR_1, sgR_2, sgR_3, reduceCtorEq, if_false, if_true, show i + 1 + 1 = i + 2 by omega, show i + 2 + 1 = i + 3 by omega]
    (try repeat (first | rw [if_pos (by omega)] | rw [if_neg (by omega)]))
    all_goals first | rfl | ((repeat' split) <;> first | rfl | omega)
  unfold SignSaid
  rw [hv]
  clear hv
  go_enter Try.func77, Try.ntmps77
  go_wp2_with (first | (go_at_call 97; (with_reducible refine (in_yes _ _ _ _ _ (by omega)).mono ?_); rintro e w' ⟨rfl, ⟨nd, rfl⟩⟩) | (go_at_call 97; (with_reducible refine (in_no _ _ _ _ _ (by omega)).mono ?_); rintro e w' ⟨rfl, ⟨nd, rfl⟩⟩))
  go_ret
  exact ⟨rfl, by repeat (first | exact Drawn0.refl _ | apply Drawn0.step)⟩
set_option maxHeartbeats 8000000 in
set_option maxRecDepth 100000 in
theorem sign_e03 (s : ByteArray) (i : Int) (w : World) (h0 : 0 ≤ i) (hi : i < s.size) (hs : s.size ≤ 9223372036854775000) (hr : 0 ≤ bt s i) (cb : bt s i = 224) (c1 : (i + 2 < s.size ∧ 128 ≤ bt s (i + 2) ∧ bt s (i + 2) ≤ 191)) (c2 : (s.size ≤ i + 1 ∨ bt s (i + 1) < 160 ∨ 191 < bt s (i + 1))) (c3 : (i + 3 < s.size ∧ 128 ≤ bt s (i + 3) ∧ bt s (i + 3) ≤ 191)) : SignSaid s i w := by
  have hv : (sgStep s i).getD 0 = 0 := by
    have hH := sgH_is (bt s i)
    repeat (first | rw [if_pos (by omega)] at hH | rw [if_neg (by omega)] at hH)
    rw [sgStep_getD, hH]
    try simp only [sgR_0, sgR_1, sgR_2, sgR_3, reduceCtorEq, if_false, if_true, show i + 1 + 1 = i + 2 by omega, show i + 2 + 1 = i + 3 by omega]
    (try repeat (first | rw [if_pos (by omega)] | rw [if_neg (by omega)]))
    all_goals first | rfl | ((repeat' split) <;> first | rfl | omega)
  unfold SignSaid
  rw [hv]
  clear hv
  go_enter Try.func77, Try.ntmps77
  go_wp2_with (first | (go_at_call 97; (with_reducible refine (in_yes _ _ _ _ _ (by omega)).mono ?_); rintro e w' ⟨rfl, ⟨nd, rfl⟩⟩) | (go_at_call 97; (with_reducible refine (in_no _ _ _ _ _ (by omega)).mono ?_); rintro e w' ⟨rfl, ⟨nd, rfl⟩⟩))
  go_ret
  exact ⟨rfl, by repeat (first | exact Drawn0.refl _ | apply Drawn0.step)⟩
set_option maxHeartbeats 8000000 in
set_option maxRecDepth 100000 in
theorem sign_e10 (s : ByteArray) (i : Int) (w : World) (h0 : 0 ≤ i) (hi : i < s.size) (hs : s.size ≤ 9223372036854775000) (hr : 0 ≤ bt s i) (cb : 225 ≤ bt s i ∧ bt s i < 237) (c1 : (s.size ≤ i + 2 ∨ bt s (i + 2) < 128 ∨ 191 < bt s (i + 2))) : SignSaid s i w := by
  have hv : (sgStep s i).getD 0 = 0 := by
    have hH := sgH_is (bt s i)
    repeat (first | rw [if_pos (by omega)] at hH | rw [if_neg (by omega)] at hH)
    rw [sgStep_getD, hH]
    try simp only [sgR_0, sgR_1, sgR_2, sgR_3, reduceCtorEq, if_false, if_true, show i + 1 + 1 = i + 2 by omega, show i + 2 + 1 = i + 3 by omega]
    (try repeat (first | rw [if_pos (by omega)] | rw [if_neg (by omega)]))
    all_goals first | rfl | ((repeat' split) <;> first | rfl | omega)
  unfold SignSaid
  rw [hv]
  clear hv
  go_enter Try.func77, Try.ntmps77
  go_wp2_with (first | (go_at_call 97; (with_reducible refine (in_yes _ _ _ _ _ (by omega)).mono ?_); rintro e w' ⟨rfl, ⟨nd, rfl⟩⟩) | (go_at_call 97; (with_reducible refine (in_no _ _ _ _ _ (by omega)).mono ?_); rintro e w' ⟨rfl, ⟨nd, rfl⟩⟩))
  go_ret
  exact ⟨rfl, by repeat (first | exact Drawn0.refl _ | apply Drawn0.step)⟩
set_option maxHeartbeats 8000000 in
set_option maxRecDepth 100000 in
theorem sign_e11 (s : ByteArray) (i : Int) (w : World) (h0 : 0 ≤ i) (hi : i < s.size) (hs : s.size ≤ 9223372036854775000) (hr : 0 ≤ bt s i) (cb : 225 ≤ bt s i ∧ bt s i < 237) (c1 : (i + 2 < s.size ∧ 128 ≤ bt s (i + 2) ∧ bt s (i + 2) ≤ 191)) (c2 : (i + 1 < s.size ∧ 128 ≤ bt s (i + 1) ∧ bt s (i + 1) ≤ 191)) : SignSaid s i w := by
  have hv : (sgStep s i).getD 0 = 3 := by
    have hH := sgH_is (bt s i)
    repeat (first | rw [if_pos (by omega)] at hH | rw [if_neg (by omega)] at hH)
    rw [sgStep_getD, hH]
    try simp only [sgR_0, sgR_1, sgR_2, sgR_3, reduceCtorEq, if_false, if_true, show i + 1 + 1 = i + 2 by omega, show i + 2 + 1 = i + 3 by omega]
    (try repeat (first | rw [if_pos (by omega)] | rw [if_neg (by omega)]))
    all_goals first | rfl | ((repeat' split) <;> first | rfl | omega)
  unfold SignSaid
  rw [hv]
  clear hv
  go_enter Try.func77, Try.ntmps77
  go_wp2_with (first | (go_at_call 97; (with_reducible refine (in_yes _ _ _ _ _ (by omega)).mono ?_); rintro e w' ⟨rfl, ⟨nd, rfl⟩⟩) | (go_at_call 97; (with_reducible refine (in_no _ _ _ _ _ (by omega)).mono ?_); rintro e w' ⟨rfl, ⟨nd, rfl⟩⟩))
  go_ret
  exact ⟨rfl, by repeat (first | exact Drawn0.refl _ | apply Drawn0.step)⟩
set_option maxHeartbeats 8000000 in
set_option maxRecDepth 100000 in
theorem sign_e12 (s : ByteArray) (i : Int) (w : World) (h0 : 0 ≤ i) (hi : i < s.size) (hs : s.size ≤ 9223372036854775000) (hr : 0 ≤ bt s i) (cb : 225 ≤ bt s i ∧ bt s i < 237) (c1 : (i + 2 < s.size ∧ 128 ≤ bt s (i + 2) ∧ bt s (i + 2) ≤ 191)) (c2 : (s.size ≤ i + 1 ∨ bt s (i + 1) < 128 ∨ 191 < bt s (i + 1))) (c3 : (s.size ≤ i + 3 ∨ bt s (i + 3) < 128 ∨ 191 < bt s (i + 3))) : SignSaid s i w := by
  have hv : (sgStep s i).getD 0 = 0 := by
    have hH := sgH_is (bt s i)
    repeat (first | rw [if_pos (by omega)] at hH | rw [if_neg (by omega)] at hH)
    rw [sgStep_getD, hH]
    try simp only [sgR_0, sgR_1, sgR_2, sgR_3, reduceCtorEq, if_false, if_true, show i + 1 + 1 = i + 2 by omega, show i + 2 + 1 = i + 3 by omega]
    (try repeat (first | rw [if_pos (by omega)] | rw [if_neg (by omega)]))
    all_goals first | rfl | ((repeat' split) <;> first | rfl | omega)
  unfold SignSaid
  rw [hv]
  clear hv
  go_enter Try.func77, Try.ntmps77
  go_wp2_with (first | (go_at_call 97; (with_reducible refine (in_yes _ _ _ _ _ (by omega)).mono ?_); rintro e w' ⟨rfl, ⟨nd, rfl⟩⟩) | (go_at_call 97; (with_reducible refine (in_no _ _ _ _ _ (by omega)).mono ?_); rintro e w' ⟨rfl, ⟨nd, rfl⟩⟩))
  go_ret
  exact ⟨rfl, by repeat (first | exact Drawn0.refl _ | apply Drawn0.step)⟩
set_option maxHeartbeats 8000000 in
set_option maxRecDepth 100000 in
theorem sign_e13 (s : ByteArray) (i : Int) (w : World) (h0 : 0 ≤ i) (hi : i < s.size) (hs : s.size ≤ 9223372036854775000) (hr : 0 ≤ bt s i) (cb : 225 ≤ bt s i ∧ bt s i < 237) (c1 : (i + 2 < s.size ∧ 128 ≤ bt s (i + 2) ∧ bt s (i + 2) ≤ 191)) (c2 : (s.size ≤ i + 1 ∨ bt s (i + 1) < 128 ∨ 191 < bt s (i + 1))) (c3 : (i + 3 < s.size ∧ 128 ≤ bt s (i + 3) ∧ bt s (i + 3) ≤ 191)) : SignSaid s i w := by
  have hv : (sgStep s i).getD 0 = 0 := by
    have hH := sgH_is (bt s i)
    repeat (first | rw [if_pos (by omega)] at hH | rw [if_neg (by omega)] at hH)
    rw [sgStep_getD, hH]
    try simp only [sgR_0, sgR_1, sgR_2, sgR_3, reduceCtorEq, if_false, if_true, show i + 1 + 1 = i + 2 by omega, show i + 2 + 1 = i + 3 by omega]
    (try repeat (first | rw [if_pos (by omega)] | rw [if_neg (by omega)]))
    all_goals first | rfl | ((repeat' split) <;> first | rfl | omega)
  unfold SignSaid
  rw [hv]
  clear hv
  go_enter Try.func77, Try.ntmps77
  go_wp2_with (first | (go_at_call 97; (with_reducible refine (in_yes _ _ _ _ _ (by omega)).mono ?_); rintro e w' ⟨rfl, ⟨nd, rfl⟩⟩) | (go_at_call 97; (with_reducible refine (in_no _ _ _ _ _ (by omega)).mono ?_); rintro e w' ⟨rfl, ⟨nd, rfl⟩⟩))
  go_ret
  exact ⟨rfl, by repeat (first | exact Drawn0.refl _ | apply Drawn0.step)⟩
set_option maxHeartbeats 8000000 in
set_option maxRecDepth 100000 in
theorem sign_ed0 (s : ByteArray) (i : Int) (w : World) (h0 : 0 ≤ i) (hi : i < s.size) (hs : s.size ≤ 9223372036854775000) (hr : 0 ≤ bt s i) (cb : bt s i = 237) (c1 : (s.size ≤ i + 2 ∨ bt s (i + 2) < 128 ∨ 191 < bt s (i + 2))) : SignSaid s i w := by
  have hv : (sgStep s i).getD 0 = 0 := by
    have hH := sgH_is (bt s i)
    repeat (first | rw [if_pos (by omega)] at hH | rw [if_neg (by omega)] at hH)
    rw [sgStep_getD, hH]
    try simp only [sgR_0, sgR_1, sgR_2, sgR_3, reduceCtorEq, if_false, if_true, show i + 1 + 1 = i + 2 by omega, show i + 2 + 1 = i + 3 by omega]
    (try repeat (first | rw [if_pos (by omega)] | rw [if_neg (by omega)]))
    all_goals first | rfl | ((repeat' split) <;> first | rfl | omega)
  unfold SignSaid
  rw [hv]
  clear hv
  go_enter Try.func77, Try.ntmps77
  go_wp2_with (first | (go_at_call 97; (with_reducible refine (in_yes _ _ _ _ _ (by omega)).mono ?_); rintro e w' ⟨rfl, ⟨nd, rfl⟩⟩) | (go_at_call 97; (with_reducible refine (in_no _ _ _ _ _ (by omega)).mono ?_); rintro e w' ⟨rfl, ⟨nd, rfl⟩⟩))
  go_ret
  exact ⟨rfl, by repeat (first | exact Drawn0.refl _ | apply Drawn0.step)⟩
set_option maxHeartbeats 8000000 in
set_option maxRecDepth 100000 in
theorem sign_ed1 (s : ByteArray) (i : Int) (w : World) (h0 : 0 ≤ i) (hi : i < s.size) (hs : s.size ≤ 9223372036854775000) (hr : 0 ≤ bt s i) (cb : bt s i = 237) (c1 : (i + 2 < s.size ∧ 128 ≤ bt s (i + 2) ∧ bt s (i + 2) ≤ 191)) (c2 : (i + 1 < s.size ∧ 128 ≤ bt s (i + 1) ∧ bt s (i + 1) ≤ 159)) : SignSaid s i w := by
  have hv : (sgStep s i).getD 0 = 3 := by
    have hH := sgH_is (bt s i)
    repeat (first | rw [if_pos (by omega)] at hH | rw [if_neg (by omega)] at hH)
    rw [sgStep_getD, hH]
    try simp only [sgR_0, sgR_1, sgR_2, sgR_3, reduceCtorEq, if_false, if_true, show i + 1 + 1 = i + 2 by omega, show i + 2 + 1 = i + 3 by omega]
    (try repeat (first | rw [if_pos (by omega)] | rw [if_neg (by omega)]))
    all_goals first | rfl | ((repeat' split) <;> first | rfl | omega)
  unfold SignSaid
  rw [hv]
  clear hv
  go_enter Try.func77, Try.ntmps77
  go_wp2_with (first | (go_at_call 97; (with_reducible refine (in_yes _ _ _ _ _ (by omega)).mono ?_); rintro e w' ⟨rfl, ⟨nd, rfl⟩⟩) | (go_at_call 97; (with_reducible refine (in_no _ _ _ _ _ (by omega)).mono ?_); rintro e w' ⟨rfl, ⟨nd, rfl⟩⟩))
  go_ret
  exact ⟨rfl, by repeat (first | exact Drawn0.refl _ | apply Drawn0.step)⟩
set_option maxHeartbeats 8000000 in
set_option maxRecDepth 100000 in
theorem sign_ed2 (s : ByteArray) (i : Int) (w : World) (h0 : 0 ≤ i) (hi : i < s.size) (hs : s.size ≤ 9223372036854775000) (hr : 0 ≤ bt s i) (cb : bt s i = 237) (c1 : (i + 2 < s.size ∧ 128 ≤ bt s (i + 2) ∧ bt s (i + 2) ≤ 191)) (c2 : (s.size ≤ i + 1 ∨ bt s (i + 1) < 128 ∨ 159 < bt s (i + 1))) (c3 : (s.size ≤ i + 3 ∨ bt s (i + 3) < 128 ∨ 191 < bt s (i + 3))) : SignSaid s i w := by
  have hv : (sgStep s i).getD 0 = 0 := by
    have hH := sgH_is (bt s i)
    repeat (first | rw [if_pos (by omega)] at hH | rw [if_neg (by omega)] at hH)
    rw [sgStep_getD, hH]
    try simp only [sgR_0, sgR_1, sgR_2, sgR_3, reduceCtorEq, if_false, if_true, show i + 1 + 1 = i + 2 by omega, show i + 2 + 1 = i + 3 by omega]
    (try repeat (first | rw [if_pos (by omega)] | rw [if_neg (by omega)]))
    all_goals first | rfl | ((repeat' split) <;> first | rfl | omega)
  unfold SignSaid
  rw [hv]
  clear hv
  go_enter Try.func77, Try.ntmps77
  go_wp2_with (first | (go_at_call 97; (with_reducible refine (in_yes _ _ _ _ _ (by omega)).mono ?_); rintro e w' ⟨rfl, ⟨nd, rfl⟩⟩) | (go_at_call 97; (with_reducible refine (in_no _ _ _ _ _ (by omega)).mono ?_); rintro e w' ⟨rfl, ⟨nd, rfl⟩⟩))
  go_ret
  exact ⟨rfl, by repeat (first | exact Drawn0.refl _ | apply Drawn0.step)⟩
set_option maxHeartbeats 8000000 in
set_option maxRecDepth 100000 in
theorem sign_ed3 (s : ByteArray) (i : Int) (w : World) (h0 : 0 ≤ i) (hi : i < s.size) (hs : s.size ≤ 9223372036854775000) (hr : 0 ≤ bt s i) (cb : bt s i = 237) (c1 : (i + 2 < s.size ∧ 128 ≤ bt s (i + 2) ∧ bt s (i + 2) ≤ 191)) (c2 : (s.size ≤ i + 1 ∨ bt s (i + 1) < 128 ∨ 159 < bt s (i + 1))) (c3 : (i + 3 < s.size ∧ 128 ≤ bt s (i + 3) ∧ bt s (i + 3) ≤ 191)) : SignSaid s i w := by
  have hv : (sgStep s i).getD 0 = 0 := by
    have hH := sgH_is (bt s i)
    repeat (first | rw [if_pos (by omega)] at hH | rw [if_neg (by omega)] at hH)
    rw [sgStep_getD, hH]
    try simp only [sgR_0, sgR_1, sgR_2, sgR_3, reduceCtorEq, if_false, if_true, show i + 1 + 1 = i + 2 by omega, show i + 2 + 1 = i + 3 by omega]
    (try repeat (first | rw [if_pos (by omega)] | rw [if_neg (by omega)]))
    all_goals first | rfl | ((repeat' split) <;> first | rfl | omega)
  unfold SignSaid
  rw [hv]
  clear hv
  go_enter Try.func77, Try.ntmps77
  go_wp2_with (first | (go_at_call 97; (with_reducible refine (in_yes _ _ _ _ _ (by omega)).mono ?_); rintro e w' ⟨rfl, ⟨nd, rfl⟩⟩) | (go_at_call 97; (with_reducible refine (in_no _ _ _ _ _ (by omega)).mono ?_); rintro e w' ⟨rfl, ⟨nd, rfl⟩⟩))
  go_ret
  exact ⟨rfl, by repeat (first | exact Drawn0.refl _ | apply Drawn0.step)⟩
set_option maxHeartbeats 8000000 in
set_option maxRecDepth 100000 in
theorem sign_ee0 (s : ByteArray) (i : Int) (w : World) (h0 : 0 ≤ i) (hi : i < s.size) (hs : s.size ≤ 9223372036854775000) (hr : 0 ≤ bt s i) (cb : 238 ≤ bt s i ∧ bt s i < 240) (c1 : (s.size ≤ i + 2 ∨ bt s (i + 2) < 128 ∨ 191 < bt s (i + 2))) : SignSaid s i w := by
  have hv : (sgStep s i).getD 0 = 0 := by
    have hH := sgH_is (bt s i)
    repeat (first | rw [if_pos (by omega)] at hH | rw [if_neg (by omega)] at hH)
    rw [sgStep_getD, hH]
    try simp only [sgR_0, sgR_1, sgR_2, sgR_3, reduceCtorEq, if_false, if_true, show i + 1 + 1 = i + 2 by omega, show i + 2 + 1 = i + 3 by omega]
    (try repeat (first | rw [if_pos (by omega)] | rw [if_neg (by omega)]))
    all_goals first | rfl | ((repeat' split) <;> first | rfl | omega)
  unfold SignSaid
  rw [hv]
  clear hv
  go_enter Try.func77, Try.ntmps77
  go_wp2_with (first | (go_at_call 97; (with_reducible refine (in_yes _ _ _ _ _ (by omega)).mono ?_); rintro e w' ⟨rfl, ⟨nd, rfl⟩⟩) | (go_at_call 97; (with_reducible refine (in_no _ _ _ _ _ (by omega)).mono ?_); rintro e w' ⟨rfl, ⟨nd, rfl⟩⟩))
  go_ret
  exact ⟨rfl, by repeat (first | exact Drawn0.refl _ | apply Drawn0.step)⟩
set_option maxHeartbeats 8000000 in
set_option maxRecDepth 100000 in
theorem sign_ee1 (s : ByteArray) (i : Int) (w : World) (h0 : 0 ≤ i) (hi : i < s.size) (hs : s.size ≤ 9223372036854775000) (hr : 0 ≤ bt s i) (cb : 238 ≤ bt s i ∧ bt s i < 240) (c1 : (i + 2 < s.size ∧ 128 ≤ bt s (i + 2) ∧ bt s (i + 2) ≤ 191)) (c2 : (i + 1 < s.size ∧ 128 ≤ bt s (i + 1) ∧ bt s (i + 1) ≤ 191)) : SignSaid s i w := by
  have hv : (sgStep s i).getD 0 = 3 := by
    have hH := sgH_is (bt s i)
    repeat (first | rw [if_pos (by omega)] at hH | rw [if_neg (by omega)] at hH)
    rw [sgStep_getD, hH]
    try simp only [sgR_0, sgR_1, sgR_2, sgR_3, reduceCtorEq, if_false, if_true, show i + 1 + 1 = i + 2 by omega, show i + 2 + 1 = i + 3 by omega]
    (try repeat (first | rw [if_pos (by omega)] | rw [if_neg (by omega)]))
    all_goals first | rfl | ((repeat' split) <;> first | rfl | omega)
  unfold SignSaid
  rw [hv]
  clear hv
  go_enter Try.func77, Try.ntmps77
  go_wp2_with (first | (go_at_call 97; (with_reducible refine (in_yes _ _ _ _ _ (by omega)).mono ?_); rintro e w' ⟨rfl, ⟨nd, rfl⟩⟩) | (go_at_call 97; (with_reducible refine (in_no _ _ _ _ _ (by omega)).mono ?_); rintro e w' ⟨rfl, ⟨nd, rfl⟩⟩))
  go_ret
  exact ⟨rfl, by repeat (first | exact Drawn0.refl _ | apply Drawn0.step)⟩
set_option maxHeartbeats 8000000 in
set_option maxRecDepth 100000 in
theorem sign_ee2 (s : ByteArray) (i : Int) (w : World) (h0 : 0 ≤ i) (hi : i < s.size) (hs : s.size ≤ 9223372036854775000) (hr : 0 ≤ bt s i) (cb : 238 ≤ bt s i ∧ bt s i < 240) (c1 : (i + 2 < s.size ∧ 128 ≤ bt s (i + 2) ∧ bt s (i + 2) ≤ 191)) (c2 : (s.size ≤ i + 1 ∨ bt s (i + 1) < 128 ∨ 191 < bt s (i + 1))) (c3 : (s.size ≤ i + 3 ∨ bt s (i + 3) < 128 ∨ 191 < bt s (i + 3))) : SignSaid s i w := by
  have hv : (sgStep s i).getD 0 = 0 := by
    have hH := sgH_is (bt s i)
    repeat (first | rw [if_pos (by omega)] at hH | rw [if_neg (by omega)] at hH)
    rw [sgStep_getD, hH]
    try simp only [sgR_0, sgR_1, sgR_2, sgR_3, reduceCtorEq, if_false, if_true, show i + 1 + 1 = i + 2 by omega, show i + 2 + 1 = i + 3 by omega]
    (try repeat (first | rw [if_pos (by omega)] | rw [if_neg (by omega)]))
    all_goals first | rfl | ((repeat' split) <;> first | rfl | omega)
  unfold SignSaid
  rw [hv]
  clear hv
  go_enter Try.func77, Try.ntmps77
  go_wp2_with (first | (go_at_call 97; (with_reducible refine (in_yes _ _ _ _ _ (by omega)).mono ?_); rintro e w' ⟨rfl, ⟨nd, rfl⟩⟩) | (go_at_call 97; (with_reducible refine (in_no _ _ _ _ _ (by omega)).mono ?_); rintro e w' ⟨rfl, ⟨nd, rfl⟩⟩))
  go_ret
  exact ⟨rfl, by repeat (first | exact Drawn0.refl _ | apply Drawn0.step)⟩
set_option maxHeartbeats 8000000 in
set_option maxRecDepth 100000 in
theorem sign_ee3 (s : ByteArray) (i : Int) (w : World) (h0 : 0 ≤ i) (hi : i < s.size) (hs : s.size ≤ 9223372036854775000) (hr : 0 ≤ bt s i) (cb : 238 ≤ bt s i ∧ bt s i < 240) (c1 : (i + 2 < s.size ∧ 128 ≤ bt s (i + 2) ∧ bt s (i + 2) ≤ 191)) (c2 : (s.size ≤ i + 1 ∨ bt s (i + 1) < 128 ∨ 191 < bt s (i + 1))) (c3 : (i + 3 < s.size ∧ 128 ≤ bt s (i + 3) ∧ bt s (i + 3) ≤ 191)) : SignSaid s i w := by
  have hv : (sgStep s i).getD 0 = 0 := by
    have hH := sgH_is (bt s i)
    repeat (first | rw [if_pos (by omega)] at hH | rw [if_neg (by omega)] at hH)
    rw [sgStep_getD, hH]
    try simp only [sgR_0, sgR_1, sgR_2, sgR_3, reduceCtorEq, if_false, if_true, show i + 1 + 1 = i + 2 by omega, show i + 2 + 1 = i + 3 by omega]
    (try repeat (first | rw [if_pos (by omega)] | rw [if_neg (by omega)]))
    all_goals first | rfl | ((repeat' split) <;> first | rfl | omega)
  unfold SignSaid
  rw [hv]
  clear hv
  go_enter Try.func77, Try.ntmps77
  go_wp2_with (first | (go_at_call 97; (with_reducible refine (in_yes _ _ _ _ _ (by omega)).mono ?_); rintro e w' ⟨rfl, ⟨nd, rfl⟩⟩) | (go_at_call 97; (with_reducible refine (in_no _ _ _ _ _ (by omega)).mono ?_); rintro e w' ⟨rfl, ⟨nd, rfl⟩⟩))
  go_ret
  exact ⟨rfl, by repeat (first | exact Drawn0.refl _ | apply Drawn0.step)⟩
set_option maxHeartbeats 8000000 in
set_option maxRecDepth 100000 in
theorem sign_f00 (s : ByteArray) (i : Int) (w : World) (h0 : 0 ≤ i) (hi : i < s.size) (hs : s.size ≤ 9223372036854775000) (hr : 0 ≤ bt s i) (cb : bt s i = 240) (c1 : (s.size ≤ i + 2 ∨ bt s (i + 2) < 128 ∨ 191 < bt s (i + 2))) : SignSaid s i w := by
  have hv : (sgStep s i).getD 0 = 0 := by
    have hH := sgH_is (bt s i)
    repeat (first | rw [if_pos (by omega)] at hH | rw [if_neg (by omega)] at hH)
    rw [sgStep_getD, hH]
    try simp only [sgR_0, sgR_1, sgR_2, sgR_3, reduceCtorEq, if_false, if_true, show i + 1 + 1 = i + 2 by omega, show i + 2 + 1 = i + 3 by omega]
    (try repeat (first | rw [if_pos (by omega)] | rw [if_neg (by omega)]))
    all_goals first | rfl | ((repeat' split) <;> first | rfl | omega)
  unfold SignSaid
  rw [hv]
  clear hv
  go_enter Try.func77, Try.ntmps77
  go_wp2_with (first | (go_at_call 97; (with_reducible refine (in_yes _ _ _ _ _ (by omega)).mono ?_); rintro e w' ⟨rfl, ⟨nd, rfl⟩⟩) | (go_at_call 97; (with_reducible refine (in_no _ _ _ _ _ (by omega)).mono ?_); rintro e w' ⟨rfl, ⟨nd, rfl⟩⟩))
  go_ret
  exact ⟨rfl, by repeat (first | exact Drawn0.refl _ | apply Drawn0.step)⟩
set_option maxHeartbeats 8000000 in
set_option maxRecDepth 100000 in
theorem sign_f01 (s : ByteArray) (i : Int) (w : World) (h0 : 0 ≤ i) (hi : i < s.size) (hs : s.size ≤ 9223372036854775000) (hr : 0 ≤ bt s i) (cb : bt s i = 240) (c1 : (i + 2 < s.size ∧ 128 ≤ bt s (i + 2) ∧ bt s (i + 2) ≤ 191)) (c2 : (s.size ≤ i + 3 ∨ bt s (i + 3) < 128 ∨ 191 < bt s (i + 3))) : SignSaid s i w := by
  have hv : (sgStep s i).getD 0 = 0 := by
    have hH := sgH_is (bt s i)
    repeat (first | rw [if_pos (by omega)] at hH | rw [if_neg (by omega)] at hH)
    rw [sgStep_getD, hH]
    try simp only [sgR_0, sgR_1, sgR_2, sgR_3, reduceCtorEq, if_false, if_true, show i + 1 + 1 = i + 2 by omega, show i + 2 + 1 = i + 3 by omega]
    (try repeat (first | rw [if_pos (by omega)] | rw [if_neg (by omega)]))
    all_goals first | rfl | ((repeat' split) <;> first | rfl | omega)
  unfold SignSaid
  rw [hv]
  clear hv
  go_enter Try.func77, Try.ntmps77
  go_wp2_with (first | (go_at_call 97; (with_reducible refine (in_yes _ _ _ _ _ (by omega)).mono ?_); rintro e w' ⟨rfl, ⟨nd, rfl⟩⟩) | (go_at_call 97; (with_reducible refine (in_no _ _ _ _ _ (by omega)).mono ?_); rintro e w' ⟨rfl, ⟨nd, rfl⟩⟩))
  go_ret
  exact ⟨rfl, by repeat (first | exact Drawn0.refl _ | apply Drawn0.step)⟩
set_option maxHeartbeats 8000000 in
set_option maxRecDepth 100000 in
theorem sign_f02 (s : ByteArray) (i : Int) (w : World) (h0 : 0 ≤ i) (hi : i < s.size) (hs : s.size ≤ 9223372036854775000) (hr : 0 ≤ bt s i) (cb : bt s i = 240) (c1 : (i + 2 < s.size ∧ 128 ≤ bt s (i + 2) ∧ bt s (i + 2) ≤ 191)) (c2 : (i + 3 < s.size ∧ 128 ≤ bt s (i + 3) ∧ bt s (i + 3) ≤ 191)) (c3 : (i + 1 < s.size ∧ 144 ≤ bt s (i + 1) ∧ bt s (i + 1) ≤ 191)) : SignSaid s i w := by
  have hv : (sgStep s i).getD 0 = 4 := by
    have hH := sgH_is (bt s i)
    repeat (first | rw [if_pos (by omega)] at hH | rw [if_neg (by omega)] at hH)
    rw [sgStep_getD, hH]
    try simp only [sgR_0, sgR_1, sgR_2, sgR_3, reduceCtorEq, if_false, if_true, show i + 1 + 1 = i + 2 by omega, show i + 2 + 1 = i + 3 by omega]
    (try repeat (first | rw [if_pos (by omega)] | rw [if_neg (by omega)]))
    all_goals first | rfl | ((repeat' split) <;> first | rfl | omega)
  unfold SignSaid
  rw [hv]
  clear hv
  go_enter Try.func77, Try.ntmps77
  go_wp2_with (first | (go_at_call 97; (with_reducible refine (in_yes _ _ _ _ _ (by omega)).mono ?_); rintro e w' ⟨rfl, ⟨nd, rfl⟩⟩) | (go_at_call 97; (with_reducible refine (in_no _ _ _ _ _ (by omega)).mono ?_); rintro e w' ⟨rfl, ⟨nd, rfl⟩⟩))
  go_ret
  exact ⟨rfl, by repeat (first | exact Drawn0.refl _ | apply Drawn0.step)⟩
set_option maxHeartbeats 8000000 in
set_option maxRecDepth 100000 in
theorem sign_f03 (s : ByteArray) (i : Int) (w : World) (h0 : 0 ≤ i) (hi : i < s.size) (hs : s.size ≤ 9223372036854775000) (hr : 0 ≤ bt s i) (cb : bt s i = 240) (c1 : (i + 2 < s.size ∧ 128 ≤ bt s (i + 2) ∧ bt s (i + 2) ≤ 191)) (c2 : (i + 3 < s.size ∧ 128 ≤ bt s (i + 3) ∧ bt s (i + 3) ≤ 191)) (c3 : (s.size ≤ i + 1 ∨ bt s (i + 1) < 144 ∨ 191 < bt s (i + 1))) : SignSaid s i w := by
  have hv : (sgStep s i).getD 0 = 0 := by
    have hH := sgH_is (bt s i)
    repeat (first | rw [if_pos (by omega)] at hH | rw [if_neg (by omega)] at hH)
    rw [sgStep_getD, hH]
    try simp only [sgR_0, sgR_1, sgR_2, sgR_3, reduceCtorEq, if_false, if_true, show i + 1 + 1 = i + 2 by omega, show i + 2 + 1 = i + 3 by omega]
    (try repeat (first | rw [if_pos (by omega)] | rw [if_neg (by omega)]))
    all_goals first | rfl | ((repeat' split) <;> first | rfl | omega)
  unfold SignSaid
  rw [hv]
  clear hv
  go_enter Try.func77, Try.ntmps77
  go_wp2_with (first | (go_at_call 97; (with_reducible refine (in_yes _ _ _ _ _ (by omega)).mono ?_); rintro e w' ⟨rfl, ⟨nd, rfl⟩⟩) | (go_at_call 97; (with_reducible refine (in_no _ _ _ _ _ (by omega)).mono ?_); rintro e w' ⟨rfl, ⟨nd, rfl⟩⟩))
  go_ret
  exact ⟨rfl, by repeat (first | exact Drawn0.refl _ | apply Drawn0.step)⟩
set_option maxHeartbeats 8000000 in
set_option maxRecDepth 100000 in
theorem sign_f10 (s : ByteArray) (i : Int) (w : World) (h0 : 0 ≤ i) (hi : i < s.size) (hs : s.size ≤ 9223372036854775000) (hr : 0 ≤ bt s i) (cb : 241 ≤ bt s i ∧ bt s i < 244) (c1 : (s.size ≤ i + 2 ∨ bt s (i + 2) < 128 ∨ 191 < bt s (i + 2))) : SignSaid s i w := by
  have hv : (sgStep s i).getD 0 = 0 := by
    have hH := sgH_is (bt s i)
    repeat (first | rw [if_pos (by omega)] at hH | rw [if_neg (by omega)] at hH)
    rw [sgStep_getD, hH]
    try simp only [sgR_0, sgR_1, sgR_2, sgR_3, reduceCtorEq, if_false, if_true, show i + 1 + 1 = i + 2 by omega, show i + 2 + 1 = i + 3 by omega]
    (try repeat (first | rw [if_pos (by omega)] | rw [if_neg (by omega)]))
    all_goals first | rfl | ((repeat' split) <;> first | rfl | omega)
  unfold SignSaid
  rw [hv]
  clear hv
  go_enter Try.func77, Try.ntmps77
  go_wp2_with (first | (go_at_call 97; (with_reducible refine (in_yes _ _ _ _ _ (by omega)).mono ?_); rintro e w' ⟨rfl, ⟨nd, rfl⟩⟩) | (go_at_call 97; (with_reducible refine (in_no _ _ _ _ _ (by omega)).mono ?_); rintro e w' ⟨rfl, ⟨nd, rfl⟩⟩))
  go_ret
  exact ⟨rfl, by repeat (first | exact Drawn0.refl _ | apply Drawn0.step)⟩
set_option maxHeartbeats 8000000 in
set_option maxRecDepth 100000 in
theorem sign_f11 (s : ByteArray) (i : Int) (w : World) (h0 : 0 ≤ i) (hi : i < s.size) (hs : s.size ≤ 9223372036854775000) (hr : 0 ≤ bt s i) (cb : 241 ≤ bt s i ∧ bt s i < 244) (c1 : (i + 2 < s.size ∧ 128 ≤ bt s (i + 2) ∧ bt s (i + 2) ≤ 191)) (c2 : (s.size ≤ i + 3 ∨ bt s (i + 3) < 128 ∨ 191 < bt s (i + 3))) : SignSaid s i w := by
  have hv : (sgStep s i).getD 0 = 0 := by
    have hH := sgH_is (bt s i)
    repeat (first | rw [if_pos (by omega)] at hH | rw [if_neg (by omega)] at hH)
    rw [sgStep_getD, hH]
    try simp only [sgR_0, sgR_1, sgR_2, sgR_3, reduceCtorEq, if_false, if_true, show i + 1 + 1 = i + 2 by omega, show i + 2 + 1 = i + 3 by omega]
    (try repeat (first | rw [if_pos (by omega)] | rw [if_neg (by omega)]))
    all_goals first | rfl | ((repeat' split) <;> first | rfl | omega)
  unfold SignSaid
  rw [hv]
  clear hv
  go_enter Try.func77, Try.ntmps77
  go_wp2_with (first | (go_at_call 97; (with_reducible refine (in_yes _ _ _ _ _ (by omega)).mono ?_); rintro e w' ⟨rfl, ⟨nd, rfl⟩⟩) | (go_at_call 97; (with_reducible refine (in_no _ _ _ _ _ (by omega)).mono ?_); rintro e w' ⟨rfl, ⟨nd, rfl⟩⟩))
  go_ret
  exact ⟨rfl, by repeat (first | exact Drawn0.refl _ | apply Drawn0.step)⟩
set_option maxHeartbeats 8000000 in
set_option maxRecDepth 100000 in
theorem sign_f12 (s : ByteArray) (i : Int) (w : World) (h0 : 0 ≤ i) (hi : i < s.size) (hs : s.size ≤ 9223372036854775000) (hr : 0 ≤ bt s i) (cb : 241 ≤ bt s i ∧ bt s i < 244) (c1 : (i + 2 < s.size ∧ 128 ≤ bt s (i + 2) ∧ bt s (i + 2) ≤ 191)) (c2 : (i + 3 < s.size ∧ 128 ≤ bt s (i + 3) ∧ bt s (i + 3) ≤ 191)) (c3 : (i + 1 < s.size ∧ 128 ≤ bt s (i + 1) ∧ bt s (i + 1) ≤ 191)) : SignSaid s i w := by
  have hv : (sgStep s i).getD 0 = 4 := by
    have hH := sgH_is (bt s i)
    repeat (first | rw [if_pos (by omega)] at hH | rw [if_neg (by omega)] at hH)
    rw [sgStep_getD, hH]
    try simp only [sgR_0, sgR_1, sgR_2, sgR_3, reduceCtorEq, if_false, if_true, show i + 1 + 1 = i + 2 by omega, show i + 2 + 1 = i + 3 by omega]
    (try repeat (first | rw [if_pos (by omega)] | rw [if_neg (by omega)]))
    all_goals first | rfl | ((repeat' split) <;> first | rfl | omega)
  unfold SignSaid
  rw [hv]
  clear hv
  go_enter Try.func77, Try.ntmps77
  go_wp2_with (first | (go_at_call 97; (with_reducible refine (in_yes _ _ _ _ _ (by omega)).mono ?_); rintro e w' ⟨rfl, ⟨nd, rfl⟩⟩) | (go_at_call 97; (with_reducible refine (in_no _ _ _ _ _ (by omega)).mono ?_); rintro e w' ⟨rfl, ⟨nd, rfl⟩⟩))
  go_ret
  exact ⟨rfl, by repeat (first | exact Drawn0.refl _ | apply Drawn0.step)⟩
set_option maxHeartbeats 8000000 in
set_option maxRecDepth 100000 in
theorem sign_f13 (s : ByteArray) (i : Int) (w : World) (h0 : 0 ≤ i) (hi : i < s.size) (hs : s.size ≤ 9223372036854775000) (hr : 0 ≤ bt s i) (cb : 241 ≤ bt s i ∧ bt s i < 244) (c1 : (i + 2 < s.size ∧ 128 ≤ bt s (i + 2) ∧ bt s (i + 2) ≤ 191)) (c2 : (i + 3 < s.size ∧ 128 ≤ bt s (i + 3) ∧ bt s (i + 3) ≤ 191)) (c3 : (s.size ≤ i + 1 ∨ bt s (i + 1) < 128 ∨ 191 < bt s (i + 1))) : SignSaid s i w := by
  have hv : (sgStep s i).getD 0 = 0 := by
    have hH := sgH_is (bt s i)
    repeat (first | rw [if_pos (by omega)] at hH | rw [if_neg (by omega)] at hH)
    rw [sgStep_getD, hH]
    try simp only [sgR_0, sgR_1, sgR_2, sgR_3, reduceCtorEq, if_false, if_true, show i + 1 + 1 = i + 2 by omega, show i + 2 + 1 = i + 3 by omega]
    (try repeat (first | rw [if_pos (by omega)] | rw [if_neg (by omega)]))
    all_goals first | rfl | ((repeat' split) <;> first | rfl | omega)
  unfold SignSaid
  rw [hv]
  clear hv
  go_enter Try.func77, Try.ntmps77
  go_wp2_with (first | (go_at_call 97; (with_reducible refine (in_yes _ _ _ _ _ (by omega)).mono ?_); rintro e w' ⟨rfl, ⟨nd, rfl⟩⟩) | (go_at_call 97; (with_reducible refine (in_no _ _ _ _ _ (by omega)).mono ?_); rintro e w' ⟨rfl, ⟨nd, rfl⟩⟩))
  go_ret
  exact ⟨rfl, by repeat (first | exact Drawn0.refl _ | apply Drawn0.step)⟩
set_option maxHeartbeats 8000000 in
set_option maxRecDepth 100000 in
theorem sign_f40 (s : ByteArray) (i : Int) (w : World) (h0 : 0 ≤ i) (hi : i < s.size) (hs : s.size ≤ 9223372036854775000) (hr : 0 ≤ bt s i) (cb : bt s i = 244) (c1 : (s.size ≤ i + 2 ∨ bt s (i + 2) < 128 ∨ 191 < bt s (i + 2))) : SignSaid s i w := by
  have hv : (sgStep s i).getD 0 = 0 := by
    have hH := sgH_is (bt s i)
    repeat (first | rw [if_pos (by omega)] at hH | rw [if_neg (by omega)] at hH)
    rw [sgStep_getD, hH]
    try simp only [sgR_0, sgR_1, sgR_2, sgR_3, reduceCtorEq, if_false, if_true, show i + 1 + 1 = i + 2 by omega, show i + 2 + 1 = i + 3 by omega]
    (try repeat (first | rw [if_pos (by omega)] | rw [if_neg (by omega)]))
    all_goals first | rfl | ((repeat' split) <;> first | rfl | omega)
  unfold SignSaid
  rw [hv]
  clear hv
  go_enter Try.func77, Try.ntmps77
  go_wp2_with (first | (go_at_call 97; (with_reducible refine (in_yes _ _ _ _ _ (by omega)).mono ?_); rintro e w' ⟨rfl, ⟨nd, rfl⟩⟩) | (go_at_call 97; (with_reducible refine (in_no _ _ _ _ _ (by omega)).mono ?_); rintro e w' ⟨rfl, ⟨nd, rfl⟩⟩))
  go_ret
  exact ⟨rfl, by repeat (first | exact Drawn0.refl _ | apply Drawn0.step)⟩
set_option maxHeartbeats 8000000 in
set_option maxRecDepth 100000 in
theorem sign_f41 (s : ByteArray) (i : Int) (w : World) (h0 : 0 ≤ i) (hi : i < s.size) (hs : s.size ≤ 9223372036854775000) (hr : 0 ≤ bt s i) (cb : bt s i = 244) (c1 : (i + 2 < s.size ∧ 128 ≤ bt s (i + 2) ∧ bt s (i + 2) ≤ 191)) (c2 : (s.size ≤ i + 3 ∨ bt s (i + 3) < 128 ∨ 191 < bt s (i + 3))) : SignSaid s i w := by
  have hv : (sgStep s i).getD 0 = 0 := by
    have hH := sgH_is (bt s i)
    repeat (first | rw [if_pos (by omega)] at hH | rw [if_neg (by omega)] at hH)
    rw [sgStep_getD, hH]
    try simp only [sgR_0, sgR_1, sgR_2, sgR_3, reduceCtorEq, if_false, if_true, show i + 1 + 1 = i + 2 by omega, show i + 2 + 1 = i + 3 by omega]
    (try repeat (first | rw [if_pos (by omega)] | rw [if_neg (by omega)]))
    all_goals first | rfl | ((repeat' split) <;> first | rfl | omega)
  unfold SignSaid
  rw [hv]
  clear hv
  go_enter Try.func77, Try.ntmps77
  go_wp2_with (first | (go_at_call 97; (with_reducible refine (in_yes _ _ _ _ _ (by omega)).mono ?_); rintro e w' ⟨rfl, ⟨nd, rfl⟩⟩) | (go_at_call 97; (with_reducible refine (in_no _ _ _ _ _ (by omega)).mono ?_); rintro e w' ⟨rfl, ⟨nd, rfl⟩⟩))
  go_ret
  exact ⟨rfl, by repeat (first | exact Drawn0.refl _ | apply Drawn0.step)⟩
set_option maxHeartbeats 8000000 in
set_option maxRecDepth 100000 in
theorem sign_f42 (s : ByteArray) (i : Int) (w : World) (h0 : 0 ≤ i) (hi : i < s.size) (hs : s.size ≤ 9223372036854775000) (hr : 0 ≤ bt s i) (cb : bt s i = 244) (c1 : (i + 2 < s.size ∧ 128 ≤ bt s (i + 2) ∧ bt s (i + 2) ≤ 191)) (c2 : (i + 3 < s.size ∧ 128 ≤ bt s (i + 3) ∧ bt s (i + 3) ≤ 191)) (c3 : (i + 1 < s.size ∧ 128 ≤ bt s (i + 1) ∧ bt s (i + 1) ≤ 143)) : SignSaid s i w := by
  have hv : (sgStep s i).getD 0 = 4 := by
    have hH := sgH_is (bt s i)
    repeat (first | rw [if_pos (by omega)] at hH | rw [if_neg (by omega)] at hH)
    rw [sgStep_getD, hH]
    try simp only [sgR_0, sgR_1, sgR_2, sgR_3, reduceCtorEq, if_false, if_true, show i + 1 + 1 = i + 2 by omega, show i + 2 + 1 = i + 3 by omega]
    (try repeat (first | rw [if_pos (by omega)] | rw [if_neg (by omega)]))
    all_goals first | rfl | ((repeat' split) <;> first | rfl | omega)
  unfold SignSaid
  rw [hv]
  clear hv
  go_enter Try.func77, Try.ntmps77
  go_wp2_with (first | (go_at_call 97; (with_reducible refine (in_yes _ _ _ _ _ (by omega)).mono ?_); rintro e w' ⟨rfl, ⟨nd, rfl⟩⟩) | (go_at_call 97; (with_reducible refine (in_no _ _ _ _ _ (by omega)).mono ?_); rintro e w' ⟨rfl, ⟨nd, rfl⟩⟩))
  go_ret
  exact ⟨rfl, by repeat (first | exact Drawn0.refl _ | apply Drawn0.step)⟩
set_option maxHeartbeats 8000000 in
set_option maxRecDepth 100000 in
theorem sign_f43 (s : ByteArray) (i : Int) (w : World) (h0 : 0 ≤ i) (hi : i < s.size) (hs : s.size ≤ 9223372036854775000) (hr : 0 ≤ bt s i) (cb : bt s i = 244) (c1 : (i + 2 < s.size ∧ 128 ≤ bt s (i + 2) ∧ bt s (i + 2) ≤ 191)) (c2 : (i + 3 < s.size ∧ 128 ≤ bt s (i + 3) ∧ bt s (i + 3) ≤ 191)) (c3 : (s.size ≤ i + 1 ∨ bt s (i + 1) < 128 ∨ 143 < bt s (i + 1))) : SignSaid s i w := by
  have hv : (sgStep s i).getD 0 = 0 := by
    have hH := sgH_is (bt s i)
    repeat (first | rw [if_pos (by omega)] at hH | rw [if_neg (by omega)] at hH)
    rw [sgStep_getD, hH]
    try simp only [sgR_0, sgR_1, sgR_2, sgR_3, reduceCtorEq, if_false, if_true, show i + 1 + 1 = i + 2 by omega, show i + 2 + 1 = i + 3 by omega]
    (try repeat (first | rw [if_pos (by omega)] | rw [if_neg (by omega)]))
    all_goals first | rfl | ((repeat' split) <;> first | rfl | omega)
  unfold SignSaid
  rw [hv]
  clear hv
  go_enter Try.func77, Try.ntmps77
  go_wp2_with (first | (go_at_call 97; (with_reducible refine (in_yes _ _ _ _ _ (by omega)).mono ?_); rintro e w' ⟨rfl, ⟨nd, rfl⟩⟩) | (go_at_call 97; (with_reducible refine (in_no _ _ _ _ _ (by omega)).mono ?_); rintro e w' ⟨rfl, ⟨nd, rfl⟩⟩))
  go_ret
  exact ⟨rfl, by repeat (first | exact Drawn0.refl _ | apply Drawn0.step)⟩
theorem bonsairef04_sign.calls (a0 : ByteArray) (a1 : Int) (r : Int) (w : World) (h : bonsairef04_sign.f a0 a1 = some r) :
    Calls Try.prog 77 #[.string a0, .int .i64 a1] w fun e w' => e = .returned (.int .i64 r) ∧ Drawn0 w w' := by
  unfold bonsairef04_sign.f at h
  split at h
  · rename_i hc
    obtain ⟨h0, hi, hs⟩ := hc
    cases h
    have hr := (bt_range a0 a1).1
    have q1 := fun lo hi => (show (a1 + 1 < (a0.size : Int) ∧ lo ≤ bt a0 (a1 + 1) ∧ bt a0 (a1 + 1) ≤ hi) ∨ ((a0.size : Int) ≤ a1 + 1 ∨ bt a0 (a1 + 1) < lo ∨ hi < bt a0 (a1 + 1)) by omega)
    have q2 : (a1 + 2 < (a0.size : Int) ∧ 128 ≤ bt a0 (a1 + 2) ∧ bt a0 (a1 + 2) ≤ 191) ∨ ((a0.size : Int) ≤ a1 + 2 ∨ bt a0 (a1 + 2) < 128 ∨ 191 < bt a0 (a1 + 2)) := by omega
    have q3 : (a1 + 3 < (a0.size : Int) ∧ 128 ≤ bt a0 (a1 + 3) ∧ bt a0 (a1 + 3) ≤ 191) ∨ ((a0.size : Int) ≤ a1 + 3 ∨ bt a0 (a1 + 3) < 128 ∨ 191 < bt a0 (a1 + 3)) := by omega
    have cls : bt a0 a1 < 128 ∨ (128 ≤ bt a0 a1 ∧ bt a0 a1 < 194 ∨ 245 ≤ bt a0 a1) ∨ (194 ≤ bt a0 a1 ∧ bt a0 a1 < 224) ∨ bt a0 a1 = 224 ∨ (225 ≤ bt a0 a1 ∧ bt a0 a1 < 237) ∨ bt a0 a1 = 237 ∨ (238 ≤ bt a0 a1 ∧ bt a0 a1 < 240) ∨ bt a0 a1 = 240 ∨ (241 ≤ bt a0 a1 ∧ bt a0 a1 < 244) ∨ bt a0 a1 = 244 := by omega
    show SignSaid a0 a1 w
    rcases cls with c | c | c | c | c | c | c | c | c | c
    · exact sign_asc0 a0 a1 w h0 hi hs hr c
    · rcases q2 with b | b
      · rcases q3 with d | d
        · exact sign_bad2 a0 a1 w h0 hi hs hr c b d
        · exact sign_bad1 a0 a1 w h0 hi hs hr c b d
      · exact sign_bad0 a0 a1 w h0 hi hs hr c b
    · rcases q1 128 191 with e | e
      · exact sign_two0 a0 a1 w h0 hi hs hr c e
      · rcases q2 with b | b
        · rcases q3 with d | d
          · exact sign_two3 a0 a1 w h0 hi hs hr c e b d
          · exact sign_two2 a0 a1 w h0 hi hs hr c e b d
        · exact sign_two1 a0 a1 w h0 hi hs hr c e b
    · rcases q2 with b | b
      · rcases q1 160 191 with e | e
        · exact sign_e01 a0 a1 w h0 hi hs hr c b e
        · rcases q3 with d | d
          · exact sign_e03 a0 a1 w h0 hi hs hr c b e d
          · exact sign_e02 a0 a1 w h0 hi hs hr c b e d
      · exact sign_e00 a0 a1 w h0 hi hs hr c b
    · rcases q2 with b | b
      · rcases q1 128 191 with e | e
        · exact sign_e11 a0 a1 w h0 hi hs hr c b e
        · rcases q3 with d | d
          · exact sign_e13 a0 a1 w h0 hi hs hr c b e d
          · exact sign_e12 a0 a1 w h0 hi hs hr c b e d
      · exact sign_e10 a0 a1 w h0 hi hs hr c b
    · rcases q2 with b | b
      · rcases q1 128 159 with e | e
        · exact sign_ed1 a0 a1 w h0 hi hs hr c b e
        · rcases q3 with d | d
          · exact sign_ed3 a0 a1 w h0 hi hs hr c b e d
          · exact sign_ed2 a0 a1 w h0 hi hs hr c b e d
      · exact sign_ed0 a0 a1 w h0 hi hs hr c b
    · rcases q2 with b | b
      · rcases q1 128 191 with e | e
        · exact sign_ee1 a0 a1 w h0 hi hs hr c b e
        · rcases q3 with d | d
          · exact sign_ee3 a0 a1 w h0 hi hs hr c b e d
          · exact sign_ee2 a0 a1 w h0 hi hs hr c b e d
      · exact sign_ee0 a0 a1 w h0 hi hs hr c b
    · rcases q2 with b | b
      · rcases q3 with d | d
        · rcases q1 144 191 with e | e
          · exact sign_f02 a0 a1 w h0 hi hs hr c b d e
          · exact sign_f03 a0 a1 w h0 hi hs hr c b d e
        · exact sign_f01 a0 a1 w h0 hi hs hr c b d
      · exact sign_f00 a0 a1 w h0 hi hs hr c b
    · rcases q2 with b | b
      · rcases q3 with d | d
        · rcases q1 128 191 with e | e
          · exact sign_f12 a0 a1 w h0 hi hs hr c b d e
          · exact sign_f13 a0 a1 w h0 hi hs hr c b d e
        · exact sign_f11 a0 a1 w h0 hi hs hr c b d
      · exact sign_f10 a0 a1 w h0 hi hs hr c b
    · rcases q2 with b | b
      · rcases q3 with d | d
        · rcases q1 128 143 with e | e
          · exact sign_f42 a0 a1 w h0 hi hs hr c b d e
          · exact sign_f43 a0 a1 w h0 hi hs hr c b d e
        · exact sign_f41 a0 a1 w h0 hi hs hr c b d
      · exact sign_f40 a0 a1 w h0 hi hs hr c b
  · cases h
def bonsairef04_First.l0 : Nat → ByteArray → Int → Option (Int × Bool)
  | 0, _, _ => none
  | k + 1, x0, x4 => if x4 < (x0.size : Int) then ((bonsairef04_sign.f x0 x4).bind fun t164 => (if t164 = 0 then (some (x4, true)) else (bonsairef04_First.l0 k x0 (wrap64 (x4 + t164))))) else (some (0, false))
def bonsairef04_First.f (k : Nat) (a0 : ByteArray) : Option (Int × Bool) := bonsairef04_First.l0 k a0 0
set_option maxHeartbeats 8000000 in
set_option maxRecDepth 100000 in
theorem bonsairef04_First.calls (k : Nat) (a0 : ByteArray) (r1 : Int) (r2 : Bool) (w : World) (h : bonsairef04_First.f k a0 = some (r1, r2)) :
    Calls Try.prog 26 #[.string a0] w fun e w' => e = .returned (.tuple #[.int .i64 r1, .bool r2]) ∧ Drawn0 w w' := by
  have H : (bonsairef04_First.l0 k a0 0) = some (r1, r2) := h
  clear h
  have H' := Aside0.mk H
  clear H
  go_enter Try.func26, Try.ntmps26
  go_wp2
  go_loopg [4] k (fun kq v4 w' => ∃ (x4_1 : Int), v4 = .int .i64 x4_1 ∧ Aside0 (bonsairef04_First.l0 kq a0 x4_1 = some (r1, r2)) ∧ Aside0 (kq ≤ k) ∧ Drawn0 w w')
  case atStart => exact ⟨(0), (by first | rfl | (simp; done) | (simp [*]; done)), H', ⟨Nat.le_refl _⟩, by repeat (first | exact Drawn0.refl _ | apply Drawn0.step)⟩
  case round =>
    clear H'
    obtain ⟨x4_1, rfl, HA, HK1, ⟨m1, rfl⟩⟩ := hrel
    cases gk with
    | zero => exact absurd HA.out (by simp [bonsairef04_First.l0])
    | succ k1 =>
      have H := HA.out
      clear HA
      simp only [bonsairef04_First.l0] at H
      by_cases c2 : x4_1 < (a0.size : Int)
      · rw [if_pos c2] at H
        have c2b0 : decide (x4_1 < (a0.size : Int)) = true := decide_eq_true c2
        clear c2
        replace H := Option.bind_eq_some_iff.mp H
        obtain ⟨t164, A30, H⟩ := H
        replace H : (if t164 = 0 then (some (x4_1, true)) else (bonsairef04_First.l0 k1 a0 (wrap64 (x4_1 + t164)))) = some (r1, r2) := H
        have A3 := Aside0.mk A30
        clear A30
        by_cases c4 : t164 = 0
        · rw [if_pos c4] at H
          have c4b0 : (t164 == 0) = true := beq_iff_eq.mpr c4
          have c4b1 : (t164 != 0) = false := bne_eq_false_iff_eq.mpr c4
          clear c4
          simp only [Option.some.injEq, Prod.mk.injEq] at H
          obtain ⟨rfl, rfl⟩ := H
          go_wp2_with (first | ((with_reducible refine gate_callee (f := 77) rfl ?_); refine goesL_ (some 12) rfl rfl Try.func77 (by kernel_rfl) rfl #[.string a0, .int .i64 x4_1] rfl (by (try simp only [List.map_toArray, List.map_cons, List.map_nil]); first | done | rfl | (simp only [List.length_drop, List.length_take]; rfl)) ?_; (with_reducible refine (bonsairef04_sign.calls a0 x4_1 t164 _ A3.out).mono ?_); rintro e w' ⟨rfl, ⟨nd, rfl⟩⟩; refine ⟨_, rfl, ?_⟩))
          go_ret2
          exact ⟨by first | rfl | (simp; done) | (simp [*]; done), by repeat (first | exact Drawn0.refl _ | apply Drawn0.step)⟩
        · rw [if_neg c4] at H
          have c4b0 : (t164 == 0) = false := beq_eq_false_iff_ne.mpr c4
          have c4b1 : (t164 != 0) = true := bne_iff_ne.mpr c4
          have H' := Aside0.mk H
          clear H
          go_wp2_with (first | ((with_reducible refine gate_callee (f := 77) rfl ?_); refine goesL_ (some 12) rfl rfl Try.func77 (by kernel_rfl) rfl #[.string a0, .int .i64 x4_1] rfl (by (try simp only [List.map_toArray, List.map_cons, List.map_nil]); first | done | rfl | (simp only [List.length_drop, List.length_take]; rfl)) ?_; (with_reducible refine (bonsairef04_sign.calls a0 x4_1 t164 _ A3.out).mono ?_); rintro e w' ⟨rfl, ⟨nd, rfl⟩⟩; refine ⟨_, rfl, ?_⟩))
          go_roundg k1
          case measure => have := HK1.out; omega
          case rel => exact ⟨(wrap64 (x4_1 + t164)), (by first | rfl | (simp; done) | (simp [*]; done)), H', ⟨by have := HK1.out; omega⟩, by repeat (first | exact Drawn0.refl _ | apply Drawn0.step)⟩
      · rw [if_neg c2] at H
        have c2b0 : decide (x4_1 < (a0.size : Int)) = false := decide_eq_false c2
        clear c2
        simp only [Option.some.injEq, Prod.mk.injEq] at H
        obtain ⟨rfl, rfl⟩ := H
        go_wp2
        go_ret2
        exact ⟨by first | rfl | (simp; done) | (simp [*]; done), by repeat (first | exact Drawn0.refl _ | apply Drawn0.step)⟩
def bonsairef04_Valid.f (k : Nat) (a0 : ByteArray) : Option (Bool) := (bonsairef04_First.f k a0).bind fun bt165 => (some (!bt165.2))
set_option maxHeartbeats 8000000 in
set_option maxRecDepth 100000 in
theorem bonsairef04_Valid.calls (k : Nat) (a0 : ByteArray) (r : Bool) (w : World) (h : bonsairef04_Valid.f k a0 = some r) :
    Calls Try.prog 30 #[.string a0] w fun e w' => e = .returned (.bool r) ∧ Drawn0 w w' := by
  have H : ((bonsairef04_First.f k a0).bind fun bt165 => (some (!bt165.2))) = some r := h
  clear h
  replace H := Option.bind_eq_some_iff.mp H
  obtain ⟨⟨t165, t166⟩, A20, H⟩ := H
  replace H : (some (!t166)) = some r := H
  have A2 := Aside0.mk A20
  clear A20
  obtain rfl := Option.some.inj H
  go_enter Try.func30, Try.ntmps30
  go_wp2_with (first | ((with_reducible refine gate_callee (f := 26) rfl ?_); refine goesL_ (some 7) rfl rfl Try.func26 (by kernel_rfl) rfl #[.string a0] rfl (by (try simp only [List.map_toArray, List.map_cons, List.map_nil]); first | done | rfl | (simp only [List.length_drop, List.length_take]; rfl)) ?_; (with_reducible refine (bonsairef04_First.calls k a0 t165 t166 _ A2.out).mono ?_); rintro e w' ⟨rfl, ⟨nd, rfl⟩⟩; refine ⟨_, rfl, ?_⟩))
  go_ret
  exact ⟨by first | rfl | (simp; done) | (simp [*]; done), by repeat (first | exact Drawn0.refl _ | apply Drawn0.step)⟩
end Go.Proofs.Ytbgjoiccehiglaa.Print
end
section
namespace Go.Proofs.Ytbgjoiccehiglaa.Print
open Go.RowKit Go.Proofs.YtbgjoiccehiglaaW.PrintWords Go.Proofs.YtbgjoiccehiglaaW.PrintLast Go.Proofs.YtbgjoiccehiglaaW.PrintMore
attribute [local go_sem] max2_int min2_int max_two min_two max_three min_three max_four min_four
set_option linter.unusedVariables false
set_option linter.unusedSimpArgs false
def bonsairef03_Put.l0 : Nat → Int → List Int → Option (ByteArray)
  | 0, _, _ => none
  | k + 1, x0, x3 => if x0 > 127 then (if x3.length < 140737488355328 then (bonsairef03_Put.l0 k (IntKind.u64.wrap (Int.tdiv x0 128)) (x3 ++ [((Int.tmod x0 128) + 128) % 256])) else (none)) else (if x3.length < 140737488355328 then (some (strOfNums (x3 ++ [(x0) % 256]))) else (none))
def bonsairef03_Put.f (k : Nat) (a0 : Int) : Option (ByteArray) := bonsairef03_Put.l0 k a0 (([] : List Int))
def bonsairef04_Put.f (k : Nat) (a0 : ByteArray) : Option (ByteArray) := (bonsairef03_Put.f k (IntKind.u64.wrap ((a0.size : Int)))).bind fun t179 => (if t179.size + a0.size ≤ 9223372036854775807 then (some (t179 ++ a0)) else (none))
end Go.Proofs.Ytbgjoiccehiglaa.Print
end
section
namespace Go.Proofs.Ytbgjoiccehiglaa.LibB
open Go.RowKit Go.Proofs.Ytbgjoiccehiglaa.Print Go.Proofs.YtbgjoiccehiglaaW.PrintWords Go.Proofs.YtbgjoiccehiglaaW.PrintLast Go.Proofs.YtbgjoiccehiglaaW.PrintMore Go.Proofs.Ytbgjoiccehiglaa.LibA
theorem w64 {n : Int} (h0 : -9223372036854775808 ≤ n) (h1 : n ≤ 9223372036854775807) : wrap64 n = n := by unfold wrap64; omega
theorem sign_at {s : ByteArray} {i m : Int} (h0 : 0 ≤ i) (hs : s.size ≤ 140737488351232) (h : SgAt s i m) : bonsairef04_sign.f s i = some m := by
  have := h.pos
  unfold bonsairef04_sign.f
  rw [if_pos ⟨h0, by omega, by omega⟩, sgStep_some.mpr h]
  rfl
theorem sign_none {s : ByteArray} {i : Int} (h0 : 0 ≤ i) (hi : i < s.size) (hs : s.size ≤ 140737488351232) (h : ∀ m, ¬ SgAt s i m) : bonsairef04_sign.f s i = some 0 := by
  unfold bonsairef04_sign.f
  rw [if_pos ⟨h0, hi, by omega⟩]
  cases hh : sgStep s i with
  | none => rfl
  | some m => exact absurd (sgStep_some.mp hh) (h m)
theorem first_l {s : ByteArray} (hs : s.size ≤ 140737488351232) {c : Nat} {i j : Int} (h : Ch s c i j) : ∀ k, 0 ≤ i → j ≤ s.size → (∀ m, ¬ SgAt s j m) → bonsairef04_First.l0 (c + 1 + k) s i = some (if j < s.size then (j, true) else (0, false)) := by
  induction h with
  | nil i =>
    intro k h0 hj hn
    rw [show 0 + 1 + k = k + 1 by omega]
    simp only [bonsairef04_First.l0]
    by_cases hi : i < (s.size : Int)
    · rw [if_pos hi, if_pos hi, sign_none h0 hi hs hn]
      rfl
    · rw [if_neg hi, if_neg hi]
  | @cons n i m j h t ih =>
    intro k h0 hj hn
    have hp := h.pos
    rw [show n + 1 + 1 + k = (n + 1 + k) + 1 by omega]
    simp only [bonsairef04_First.l0]
    rw [if_pos (by omega), sign_at h0 hs h]
    simp only [Option.bind_some]
    rw [if_neg (by omega), w64 (by omega) (by omega)]
    exact ih k (by omega) hj hn
structure Tells (s : ByteArray) (c : Nat) (j : Int) : Prop where
  signs : word_signs.f s = some ((c : Int), j)
  ch : Ch s c 0 j
  lo : 0 ≤ j
  hi : j ≤ s.size
  stop : ∀ m, ¬ SgAt s j m
  few : (c : Int) ≤ j
theorem tells (s : ByteArray) (hs : s.size ≤ 140737488351232) : ∃ c j, Tells s c j := by
  obtain ⟨c, j, h, hc, h0, hj, hn⟩ := signs_ch s
  exact ⟨c, j, by unfold word_signs.f; rw [if_pos (by omega), h], hc, h0, hj, hn, by have := hc.le; omega⟩
theorem Tells.vld {s : ByteArray} {c : Nat} {j : Int} (t : Tells s c j) : Vld s ↔ j = s.size := vld_iff t.ch t.stop t.hi
theorem Tells.wordFirst {s : ByteArray} {c : Nat} {j : Int} (t : Tells s c j) : word_First.f s = some (if j < s.size then (j, true) else (0, false)) := by
  unfold word_First.f
  rw [t.signs]
  simp only [Option.bind_some]
  split <;> rfl
noncomputable instance (s : ByteArray) : Decidable (Vld s) := Classical.propDecidable _
theorem Tells.wordValid {s : ByteArray} {c : Nat} {j : Int} (t : Tells s c j) : word_Valid.f s = some (decide (Vld s)) := by
  unfold word_Valid.f
  rw [t.signs]
  simp only [Option.bind_some]
  congr 1
  by_cases h : j = (s.size : Int)
  · simp [h, t.vld]
  · simp [h, t.vld]
theorem wordValid (s : ByteArray) (hs : s.size ≤ 140737488351232) : word_Valid.f s = some (decide (Vld s)) := by
  obtain ⟨c, j, t⟩ := tells s hs
  exact t.wordValid
theorem Tells.refFirst {s : ByteArray} {c : Nat} {j : Int} (t : Tells s c j) (hs : s.size ≤ 140737488351232) (k : Nat) : bonsairef04_First.f (c + 1 + k) s = word_First.f s := by
  rw [t.wordFirst]
  exact first_l hs t.ch k (by omega) t.hi t.stop
theorem Tells.refValid {s : ByteArray} {c : Nat} {j : Int} (t : Tells s c j) (hs : s.size ≤ 140737488351232) (k : Nat) : bonsairef04_Valid.f (c + 1 + k) s = word_Valid.f s := by
  unfold bonsairef04_Valid.f
  rw [t.refFirst hs, t.wordFirst, t.wordValid]
  simp only [Option.bind_some]
  congr 1
  have := t.hi
  by_cases h : j < (s.size : Int)
  · rw [if_pos h]; simp [t.vld]; omega
  · rw [if_neg h]; simp [t.vld]; omega
end Go.Proofs.Ytbgjoiccehiglaa.LibB
end
section
namespace Go.Proofs.Ytbgjoiccehiglaa.LibC
open Go.RowKit Go.Proofs.Ytbgjoiccehiglaa.Print Go.Proofs.YtbgjoiccehiglaaW.PrintWords Go.Proofs.YtbgjoiccehiglaaW.PrintLast Go.Proofs.YtbgjoiccehiglaaW.PrintMore Go.Proofs.Ytbgjoiccehiglaa.LibA Go.Proofs.Ytbgjoiccehiglaa.LibB
theorem or128 (a : Int) (h0 : 0 ≤ a) (h1 : a < 256) : bits .or .u8 a 128 = a % 128 + 128 := by
  obtain ⟨n, rfl⟩ := Int.eq_ofNat_of_zero_le h0
  have key : ∀ m : Fin 256, bits .or .u8 ((m.val : Nat) : Int) 128 = ((m.val : Nat) : Int) % 128 + 128 := by decide +kernel
  exact key ⟨n, by omega⟩
def putL : Nat → Int → List Int
  | 0, x => [x]
  | d + 1, x => if x ≥ 128 then (x % 128 + 128) :: putL d (x / 128) else [x]
theorem put_l : ∀ (d k : Nat) (x : Int) (acc : List Int), 0 ≤ x → x < 128 ^ (d + 1) → x < 18446744073709551616 → acc.length + d < 140737488355328 →
    pack_Put.l0 (d + 1 + k) x acc = some (strOfNums (acc ++ putL d x)) ∧ bonsairef03_Put.l0 (d + 1 + k) x acc = some (strOfNums (acc ++ putL d x))
  | 0, k, x, acc, h0, h1, h2, h3 => by
    rw [show 0 + 1 + k = k + 1 by omega]
    simp only [pack_Put.l0, bonsairef03_Put.l0, putL]
    rw [if_neg (by omega), if_pos (by omega), if_neg (by omega), show x % 256 = x by omega]
    exact ⟨rfl, rfl⟩
  | d + 1, k, x, acc, h0, h1, h2, h3 => by
    rw [show d + 1 + 1 + k = (d + 1 + k) + 1 by omega]
    simp only [pack_Put.l0, bonsairef03_Put.l0, putL]
    by_cases hx : x ≥ 128
    · have hd : x / 128 < 128 ^ (d + 1) := by
        rw [Int.pow_succ] at h1
        exact Int.ediv_lt_of_lt_mul (by omega) h1
      obtain ⟨e1, e2⟩ := put_l d k (x / 128) (acc ++ [x % 128 + 128]) (by omega) hd (by omega) (by simp; omega)
      rw [if_pos hx, if_pos (by omega), if_pos hx, if_pos (by omega), if_pos (by omega)]
      rw [or128 (x % 256) (by omega) (by omega), show x % 256 % 128 = x % 128 by omega, e1]
      rw [Int.tdiv_eq_ediv_of_nonneg h0, Int.tmod_eq_emod_of_nonneg h0, pack_wraps_u64 _ (by omega) (by omega), show (x % 128 + 128) % 256 = x % 128 + 128 by omega, e2]
      simp
    · rw [if_neg hx, if_pos (by omega), if_neg hx, if_neg (by omega), show x % 256 = x by omega]
      exact ⟨rfl, rfl⟩
theorem put_some (x : Int) (h0 : 0 ≤ x) (h1 : x < 18446744073709551616) (k : Nat) (hk : 10 ≤ k) : pack_Put.f k x = some (strOfNums (putL 9 x)) ∧ bonsairef03_Put.f k x = some (strOfNums (putL 9 x)) := by
  have := put_l 9 (k - 10) x [] h0 (by omega) h1 (by simp)
  rw [show 9 + 1 + (k - 10) = k by omega] at this
  simpa [pack_Put.f, bonsairef03_Put.f] using this
theorem putL_length : ∀ (d : Nat) (x : Int), 1 ≤ (putL d x).length ∧ (putL d x).length ≤ d + 1
  | 0, x => by simp [putL]
  | d + 1, x => by
    have := putL_length d (x / 128)
    unfold putL
    split <;> simp <;> omega
theorem wordPut (s : ByteArray) (hs : s.size ≤ 140737488351232) (k : Nat) (hk : 10 ≤ k) : word_Put.f k s = some (strOfNums (putL 9 s.size) ++ s) ∧ bonsairef04_Put.f k s = word_Put.f k s := by
  have h := put_some (s.size : Int) (by omega) (by omega) k hk
  have hw := pack_wraps_u64 (s.size : Int) (by omega) (by omega)
  have hl := putL_length 9 (s.size : Int)
  have hz : (strOfNums (putL 9 (s.size : Int))).size = (putL 9 (s.size : Int)).length := strOfNums_size _
  unfold word_Put.f bonsairef04_Put.f
  rw [hw, h.1, h.2]
  simp only [Option.bind_some]
  rw [if_pos (by omega)]
  exact ⟨rfl, trivial⟩
end Go.Proofs.Ytbgjoiccehiglaa.LibC
end
section
namespace Go.Proofs.Ytbgjoiccehiglaa.Print
open Go.RowKit Go.Proofs.YtbgjoiccehiglaaW.PrintWords Go.Proofs.YtbgjoiccehiglaaW.PrintLast Go.Proofs.YtbgjoiccehiglaaW.PrintMore
attribute [local go_sem] max2_int min2_int max_two min_two max_three min_three max_four min_four
set_option linter.unusedVariables false
set_option linter.unusedSimpArgs false
mutual
def bonsairef03_Reader_Num.l0 : Nat → Int → Int → Int → ByteArray → Int → Int → Option (Int × ByteArray × Int × Int)
  | 0, _, _, _, _, _, _ => none
  | k + 1, x3, x4, x5, x1000, x1001, x1002 => if x5 < 10 then (bonsairef03_Reader_Num.j1 k x3 x4 x5 (x1002 == 0) x1000 x1001 x1002) else (bonsairef03_Reader_Num.j1 k x3 x4 x5 false x1000 x1001 x1002)
def bonsairef03_Reader_Num.j1 : Nat → Int → Int → Int → Bool → ByteArray → Int → Int → Option (Int × ByteArray × Int × Int)
  | 0, _, _, _, _, _, _, _ => none
  | k + 1, x3, x4, x5, x15, x1000, x1001, x1002 => if x15 = true then (if (wrap64 (x1001 + x5)) ≥ (x1000.size : Int) then (some (0, x1000, x1001, 2)) else (if 0 ≤ (wrap64 (x1001 + x5)) then (if (wrap64 (x1001 + x5)) < (x1000.size : Int) then (if x5 = 9 then (if (IntKind.u64.wrap (bt x1000 (wrap64 (x1001 + x5)))) > 1 then (bonsairef03_Reader_Num.j2 k x3 x4 x5 (IntKind.u64.wrap (bt x1000 (wrap64 (x1001 + x5)))) true x1000 x1001 x1002) else (if x5 > 0 then (bonsairef03_Reader_Num.j2 k x3 x4 x5 (IntKind.u64.wrap (bt x1000 (wrap64 (x1001 + x5)))) ((IntKind.u64.wrap (bt x1000 (wrap64 (x1001 + x5)))) == 0) x1000 x1001 x1002) else (bonsairef03_Reader_Num.j2 k x3 x4 x5 (IntKind.u64.wrap (bt x1000 (wrap64 (x1001 + x5)))) false x1000 x1001 x1002))) else (if x5 > 0 then (bonsairef03_Reader_Num.j2 k x3 x4 x5 (IntKind.u64.wrap (bt x1000 (wrap64 (x1001 + x5)))) ((IntKind.u64.wrap (bt x1000 (wrap64 (x1001 + x5)))) == 0) x1000 x1001 x1002) else (bonsairef03_Reader_Num.j2 k x3 x4 x5 (IntKind.u64.wrap (bt x1000 (wrap64 (x1001 + x5)))) false x1000 x1001 x1002))) else (none)) else (none))) else (some (0, x1000, x1001, x1002))
def bonsairef03_Reader_Num.j2 : Nat → Int → Int → Int → Int → Bool → ByteArray → Int → Int → Option (Int × ByteArray × Int × Int)
  | 0, _, _, _, _, _, _, _, _ => none
  | k + 1, x3, x4, x5, x6, x58, x1000, x1001, x1002 => if x58 = true then (some (0, x1000, x1001, 3)) else (if x6 < 128 then (some (IntKind.u64.wrap (x3 + (IntKind.u64.wrap ((Int.tmod x6 128) * x4))), x1000, wrap64 ((wrap64 (x1001 + x5)) + 1), x1002)) else (bonsairef03_Reader_Num.l0 k (IntKind.u64.wrap (x3 + (IntKind.u64.wrap ((Int.tmod x6 128) * x4)))) (IntKind.u64.wrap (x4 * 128)) (wrap64 (x5 + 1)) x1000 x1001 x1002))
end
def bonsairef03_Reader_Num.f (k : Nat) (s0_0 : ByteArray) (s0_1 : Int) (s0_2 : Int) : Option (Int × ByteArray × Int × Int) := bonsairef03_Reader_Num.l0 k 0 1 0 s0_0 s0_1 s0_2
def bonsairef03_Reader_Left.f (s0_0 : ByteArray) (s0_1 : Int) (s0_2 : Int) : Option (Int × ByteArray × Int × Int) := some (wrap64 ((s0_0.size : Int) - s0_1), s0_0, s0_1, s0_2)
def bonsairef03_Reader_Take.j0 : Nat → Int → Bool → ByteArray → Int → Int → Option (ByteArray × ByteArray × Int × Int)
  | 0, _, _, _, _, _ => none
  | k + 1, x1, x27, x1000, x1001, x1002 => if x27 = true then (some ((⟨#[]⟩ : ByteArray), x1000, x1001, 2)) else (if x1002 = 0 then (if 0 ≤ (wrap64 ((wrap64 (x1001 + x1)) - x1)) then (if (wrap64 ((wrap64 (x1001 + x1)) - x1)) ≤ (wrap64 (x1001 + x1)) then (if (wrap64 (x1001 + x1)) ≤ (x1000.size : Int) then (some (x1000.extract ((wrap64 ((wrap64 (x1001 + x1)) - x1)) : Int).toNat ((wrap64 (x1001 + x1)) : Int).toNat, x1000, wrap64 (x1001 + x1), x1002)) else (none)) else (none)) else (none)) else (some ((⟨#[]⟩ : ByteArray), x1000, x1001, x1002)))
def bonsairef03_Reader_Take.f (k : Nat) (s0_0 : ByteArray) (s0_1 : Int) (s0_2 : Int) (a1 : Int) : Option (ByteArray × ByteArray × Int × Int) := if s0_2 = 0 then (if a1 < 0 then (bonsairef03_Reader_Take.j0 k a1 true s0_0 s0_1 s0_2) else (bonsairef03_Reader_Take.j0 k a1 (decide (a1 > (wrap64 ((s0_0.size : Int) - s0_1)))) s0_0 s0_1 s0_2)) else (bonsairef03_Reader_Take.j0 k a1 false s0_0 s0_1 s0_2)
end Go.Proofs.Ytbgjoiccehiglaa.Print
end
section
namespace Go.Proofs.Ytbgjoiccehiglaa.LibD
open Go.RowKit Go.Proofs.Ytbgjoiccehiglaa.Print Go.Proofs.YtbgjoiccehiglaaW.PrintWords Go.Proofs.YtbgjoiccehiglaaW.PrintLast Go.Proofs.YtbgjoiccehiglaaW.PrintMore Go.Proofs.Ytbgjoiccehiglaa.LibA Go.Proofs.Ytbgjoiccehiglaa.LibB Go.Proofs.Ytbgjoiccehiglaa.LibC
def numRef (R : Int × Int × Int) (S : ByteArray) (at_ : Int) : Int × ByteArray × Int × Int := if R.1 = 0 then (R.2.1, S, at_ + R.2.2, 0) else (0, S, at_, R.1)
theorem num_l (S s : ByteArray) (a : Int) (ha : 0 ≤ a) (hS : S.size ≤ 140737488351232) (hs : (S.size : Int) = a + s.size) (hb : ∀ d : Int, 0 ≤ d → d < s.size → bt S (a + d) = bt s d) :
    ∀ (d : Nat) (i n : Int) (k : Nat), i + (d + 1 : Nat) = 10 → 0 ≤ i → i ≤ s.size → 0 ≤ n → n < 128 ^ i.toNat →
      bonsairef03_Reader_Num.l0 (3 * (d + 1) + k) n (128 ^ i.toNat) i S a 0 = some (numRef (numL s (d + 1) i n) S a)
  | d, i, n, k, hd, hi0, his, hn0, hn => by
    rw [show 3 * (d + 1) + k = (((3 * d + k) + 1) + 1) + 1 by omega]
    simp only [bonsairef03_Reader_Num.l0, bonsairef03_Reader_Num.j1, numL]
    rw [if_pos (by omega), w64 (show -9223372036854775808 ≤ a + i by omega) (by omega)]
    simp only [BEq.rfl, if_true]
    by_cases hlt : i < (s.size : Int)
    · rw [if_neg (by omega), if_pos (by omega), if_pos (by omega), if_pos hlt, hb i hi0 hlt]
      have hr := bt_range s i
      rw [pack_wraps_u64 _ hr.1 (by omega)]
      by_cases hok : (i < 9 ∨ bt s i ≤ 1) ∧ (i = 0 ∨ bt s i ≠ 0)
      · rw [if_pos hok]
        have hj : ∀ X : Bool, X = false → (bonsairef03_Reader_Num.j2 (3 * d + k + 1) n (128 ^ i.toNat) i (bt s i) X S a 0 = some (numRef (if bt s i < 128 then (0, n + bt s i % 128 * 128 ^ i.toNat, i + 1) else numL s d (i + 1) (n + bt s i % 128 * 128 ^ i.toNat)) S a)) := by
          rintro X rfl
          simp only [bonsairef03_Reader_Num.j2, Bool.false_eq_true, if_false]
          obtain ⟨_, h64⟩ := num_step i (bt s i) n hi0 (by omega) hr.1 hr.2 hok.1 hn0 hn
          have hm0 : 0 ≤ bt s i % 128 * 128 ^ i.toNat := Int.mul_nonneg (by omega) (by have := (pack_pow9 i (by omega)).2; omega)
          rw [Int.tmod_eq_emod_of_nonneg hr.1, pack_wraps_u64 (bt s i % 128 * 128 ^ i.toNat) hm0 (by omega), pack_wraps_u64 (n + _) (by omega) h64]
          by_cases hb1 : bt s i < 128
          · rw [if_pos hb1, if_pos hb1, w64 (show -9223372036854775808 ≤ a + i by omega) (by omega), w64 (show -9223372036854775808 ≤ a + i + 1 by omega) (by omega)]
            simp only [numRef, if_true]
            congr 4
            omega
          · rw [if_neg hb1, if_neg hb1]
            have h9 : i < 9 := by omega
            cases d with
            | zero => omega
            | succ d =>
              have hp : bt s i % 128 * 128 ^ i.toNat ≤ 127 * 128 ^ i.toNat := Int.mul_le_mul_of_nonneg_right (by omega) (by have := (pack_pow9 i (by omega)).2; omega)
              have he : (128 : Int) ^ (i + 1).toNat = 128 ^ i.toNat * 128 := by rw [show (i + 1).toNat = i.toNat + 1 by omega, Int.pow_succ]
              have h8 := pack_pow8 i (by omega)
              have hq := (pack_pow9 i (by omega)).2
              rw [pack_wraps_u64 (128 ^ i.toNat * 128) (by omega) (by omega), w64 (by omega) (by omega), ← he]
              exact num_l S s a ha hS hs hb d (i + 1) _ k (by omega) (by omega) (by omega) (by omega) (by omega)
        by_cases h9 : i = 9
        · rw [if_pos h9, if_neg (by omega), if_pos (by omega)]
          exact hj _ (by simp; omega)
        · rw [if_neg h9]
          by_cases h0 : i > 0
          · rw [if_pos h0]
            exact hj _ (by simp; omega)
          · rw [if_neg h0]
            exact hj _ rfl
      · rw [if_neg hok]
        have hj : ∀ X : Bool, X = true → bonsairef03_Reader_Num.j2 (3 * d + k + 1) n (128 ^ i.toNat) i (bt s i) X S a 0 = some (numRef (3, 0, 0) S a) := by
          rintro X rfl
          simp only [bonsairef03_Reader_Num.j2, if_true, numRef]
          rfl
        by_cases h9 : i = 9
        · rw [if_pos h9]
          by_cases hb1 : bt s i > 1
          · rw [if_pos hb1]
            exact hj _ rfl
          · rw [if_neg hb1, if_pos (by omega)]
            exact hj _ (by simp; omega)
        · rw [if_neg h9, if_pos (by omega)]
          exact hj _ (by simp; omega)
    · rw [if_pos (by omega), if_neg hlt]
      rfl
structure Sim (S : ByteArray) (a : Int) (r : ByteArray) : Prop where
  big : S.size ≤ 140737488351232
  lo : 0 ≤ a
  size : (S.size : Int) = a + r.size
  rest : r = S.extract a.toNat S.size
theorem Sim.byte {S r : ByteArray} {a : Int} (h : Sim S a r) (d : Int) (h0 : 0 ≤ d) (h1 : d < r.size) : bt S (a + d) = bt r d := by
  have := h.size
  have := h.lo
  rw [h.rest, bt_drop (Nat.le_refl _) h0 (by omega)]
  congr 1
  omega
theorem Sim.begin (S : ByteArray) (hS : S.size ≤ 140737488351232) (a : Int) (h0 : 0 ≤ a) (h1 : a ≤ S.size) : Sim S a (S.extract a.toNat S.size) :=
  ⟨hS, h0, by rw [ByteArray.size_extract]; omega, rfl⟩
theorem Sim.go {S r : ByteArray} {a : Int} (h : Sim S a r) (n : Int) (h0 : 0 ≤ n) (h1 : n ≤ r.size) : Sim S (a + n) (r.extract n.toNat r.size) := by
  have := h.size
  have := h.lo
  refine ⟨h.big, by omega, by rw [ByteArray.size_extract]; omega, ?_⟩
  conv => lhs; rw [h.rest]
  rw [ByteArray.extract_extract]
  congr 1
  · omega
  · rw [ByteArray.size_extract]; omega
theorem numL_is (s : ByteArray) : ∀ (d : Nat) (i n : Int), i + (d : Nat) = 10 → 0 ≤ i → i ≤ s.size → 0 ≤ n → n < 128 ^ i.toNat →
    ((numL s d i n).1 = 0 → 0 ≤ (numL s d i n).2.1 ∧ (numL s d i n).2.1 < 18446744073709551616 ∧ i < (numL s d i n).2.2 ∧ (numL s d i n).2.2 ≤ s.size) ∧ ((numL s d i n).1 = 0 ∨ (numL s d i n).1 = 2 ∨ (numL s d i n).1 = 3)
  | 0, i, n, _, _, _, _, _ => by simp [numL]
  | d + 1, i, n, hd, hi0, his, hn0, hn => by
    have hr := bt_range s i
    simp only [numL]
    by_cases hlt : i < (s.size : Int)
    · rw [if_pos hlt]
      by_cases hok : (i < 9 ∨ bt s i ≤ 1) ∧ (i = 0 ∨ bt s i ≠ 0)
      · rw [if_pos hok]
        obtain ⟨_, h64⟩ := num_step i (bt s i) n hi0 (by omega) hr.1 hr.2 hok.1 hn0 hn
        have hm0 : 0 ≤ bt s i % 128 * 128 ^ i.toNat := Int.mul_nonneg (by omega) (by have := (pack_pow9 i (by omega)).2; omega)
        by_cases hb1 : bt s i < 128
        · rw [if_pos hb1]
          exact ⟨fun _ => ⟨by show 0 ≤ n + _; omega, by show n + _ < _; omega, by show i < i + 1; omega, by show i + 1 ≤ _; omega⟩, .inl rfl⟩
        · rw [if_neg hb1]
          have hp : bt s i % 128 * 128 ^ i.toNat ≤ 127 * 128 ^ i.toNat := Int.mul_le_mul_of_nonneg_right (by omega) (by have := (pack_pow9 i (by omega)).2; omega)
          have he : (128 : Int) ^ (i + 1).toNat = 128 ^ i.toNat * 128 := by rw [show (i + 1).toNat = i.toNat + 1 by omega, Int.pow_succ]
          have := numL_is s d (i + 1) (n + bt s i % 128 * 128 ^ i.toNat) (by omega) (by omega) (by omega) (by omega) (by omega)
          exact ⟨fun h => by have := this.1 h; omega, this.2⟩
      · rw [if_neg hok]
        exact ⟨(fun h => by cases h), .inr (.inr rfl)⟩
    · rw [if_neg hlt]
      exact ⟨(fun h => by cases h), .inr (.inl rfl)⟩
theorem Sim.num {S r : ByteArray} {a : Int} (h : Sim S a r) (e : Int) : ∃ (v : Int) (r' : ByteArray) (e' a' : Int), pack_Reader_Num.f r e = some (v, r', e') ∧ (∀ k, 30 ≤ k → bonsairef03_Reader_Num.f k S a e = some (v, S, a', e')) ∧ Sim S a' r' ∧ 0 ≤ v ∧ v < 18446744073709551616 ∧
    (e ≠ 0 → v = 0 ∧ e' = e ∧ r' = r ∧ a' = a) ∧ (e = 0 → e' = 0 ∨ e' = 2 ∨ e' = 3) ∧ (e' = 0 → a < a') ∧ (e' ≠ 0 → v = 0 ∧ r' = r ∧ a' = a) := by
  have hsz := h.size
  have hlo := h.lo
  have hbig := h.big
  have hrs : r.size ≤ 9223372036854775000 := by omega
  by_cases he : e = 0
  · subst he
    have hk : ∀ k, 30 ≤ k → bonsairef03_Reader_Num.f k S a 0 = some (numRef (numL r 10 0 0) S a) := fun k hk => by
      have := num_l S r a h.lo h.big h.size h.byte 9 0 0 (k - 30) (by omega) (by omega) (by omega) (by omega) (by decide)
      rw [show 3 * (9 + 1) + (k - 30) = k by omega] at this
      exact this
    obtain ⟨hn1, hn2⟩ := numL_is r 10 0 0 (by omega) (by omega) (by omega) (by omega) (by decide)
    unfold pack_Reader_Num.f
    rw [if_pos hrs, if_pos rfl]
    by_cases hR : (numL r 10 0 0).1 = 0
    · have hn := hn1 hR
      refine ⟨_, _, _, a + (numL r 10 0 0).2.2, by rw [if_pos hR], fun k h' => by rw [hk k h']; unfold numRef; rw [if_pos hR], h.go _ (by omega) (by omega), hn.1, hn.2.1, fun h => absurd rfl h, fun _ => .inl rfl, fun _ => by omega, fun h => absurd rfl h⟩
    · refine ⟨_, _, _, a, by rw [if_neg hR], fun k h' => by rw [hk k h']; unfold numRef; rw [if_neg hR], h, by omega, by omega, fun h => absurd rfl h, fun _ => by omega, fun h => absurd h hR, fun _ => ⟨rfl, rfl, rfl⟩⟩
  · refine ⟨0, r, e, a, by unfold pack_Reader_Num.f; rw [if_pos hrs, if_neg he], fun k hk => ?_, h, by omega, by omega, fun _ => ⟨rfl, rfl, rfl, rfl⟩, fun h => absurd h he, fun h => absurd h he, fun _ => ⟨rfl, rfl, rfl⟩⟩
    obtain ⟨k, rfl⟩ : ∃ m, k = m + 2 := ⟨k - 2, by omega⟩
    unfold bonsairef03_Reader_Num.f
    simp only [bonsairef03_Reader_Num.l0, bonsairef03_Reader_Num.j1]
    rw [if_pos (by omega), if_neg (by simpa using he)]
theorem Sim.left {S r : ByteArray} {a : Int} (h : Sim S a r) (e : Int) : pack_Reader_Left.f r e = some ((r.size : Int), r, e) ∧ bonsairef03_Reader_Left.f S a e = some ((r.size : Int), S, a, e) := by
  have := h.size
  have := h.lo
  have := h.big
  exact ⟨rfl, by unfold bonsairef03_Reader_Left.f; rw [w64 (by omega) (by omega)]; congr 2; omega⟩
theorem Sim.take {S r : ByteArray} {a : Int} (h : Sim S a r) (n : Int) (h0 : 0 ≤ n) (h1 : n ≤ r.size) : pack_Reader_Take.f r 0 n = some (r.extract 0 n.toNat, r.extract n.toNat r.size, 0) ∧
    (∀ k, 1 ≤ k → bonsairef03_Reader_Take.f k S a 0 n = some (r.extract 0 n.toNat, S, a + n, 0)) := by
  have hsz := h.size
  have hlo := h.lo
  have hbig := h.big
  refine ⟨by unfold pack_Reader_Take.f; rw [if_pos rfl, if_pos ⟨h0, h1⟩], fun k hk => ?_⟩
  obtain ⟨k, rfl⟩ : ∃ m, k = m + 1 := ⟨k - 1, by omega⟩
  unfold bonsairef03_Reader_Take.f
  rw [if_pos rfl, if_neg (by omega), w64 (show -9223372036854775808 ≤ (S.size : Int) - a by omega) (by omega)]
  simp only [bonsairef03_Reader_Take.j0]
  rw [if_neg (by simp; omega), if_pos trivial, w64 (show -9223372036854775808 ≤ a + n by omega) (by omega), w64 (show -9223372036854775808 ≤ a + n - n by omega) (by omega), if_pos (by omega), if_pos (by omega), if_pos (by omega)]
  congr 2
  conv => rhs; rw [h.rest]
  rw [ByteArray.extract_extract]
  congr 1
  · omega
  · omega
end Go.Proofs.Ytbgjoiccehiglaa.LibD
end
section
namespace Go.Proofs.Ytbgjoiccehiglaa.Print
open Go.RowKit Go.Proofs.YtbgjoiccehiglaaW.PrintWords Go.Proofs.YtbgjoiccehiglaaW.PrintLast Go.Proofs.YtbgjoiccehiglaaW.PrintMore
attribute [local go_sem] max2_int min2_int max_two min_two max_three min_three max_four min_four
set_option linter.unusedVariables false
set_option linter.unusedSimpArgs false
mutual
def bonsairef04_Take.j0 : Nat → ByteArray → Int → Int → Bool → Option (ByteArray × Int × Int)
  | 0, _, _, _, _ => none
  | k + 1, x0, x1, x2, x19 => if x19 = true then (some ((⟨#[]⟩ : ByteArray), 0, 1)) else ((bonsairef03_Reader_Num.f k x0 x1 0).bind fun bt197 => (if bt197.2.2.2 = 0 then (if x2 < 0 then (bonsairef04_Take.j1 k bt197.1 true bt197.2.1 bt197.2.2.1 bt197.2.2.2) else (bonsairef04_Take.j1 k bt197.1 (decide (bt197.1 > (IntKind.u64.wrap (x2)))) bt197.2.1 bt197.2.2.1 bt197.2.2.2)) else (some ((⟨#[]⟩ : ByteArray), 0, bt197.2.2.2))))
def bonsairef04_Take.j1 : Nat → Int → Bool → ByteArray → Int → Int → Option (ByteArray × Int × Int)
  | 0, _, _, _, _, _ => none
  | k + 1, x10, x42, x197000, x197001, x197002 => if x42 = true then (some ((⟨#[]⟩ : ByteArray), 0, 10)) else ((bonsairef03_Reader_Left.f x197000 x197001 x197002).bind fun bt201 => (if x10 > (IntKind.u64.wrap (bt201.1)) then (some ((⟨#[]⟩ : ByteArray), 0, 2)) else ((bonsairef03_Reader_Take.f k bt201.2.1 bt201.2.2.1 bt201.2.2.2 (wrap64 (x10))).bind fun bt205 => ((bonsairef04_Valid.f k bt205.1).bind fun t209 => (if t209 = true then (some (bt205.1, bt205.2.2.1, 0)) else (some ((⟨#[]⟩ : ByteArray), 0, 4)))))))
end
def bonsairef04_Take.f (k : Nat) (a0 : ByteArray) (a1 : Int) (a2 : Int) : Option (ByteArray × Int × Int) := if a1 < 0 then (bonsairef04_Take.j0 k a0 a1 a2 true) else (bonsairef04_Take.j0 k a0 a1 a2 (decide (a1 > (a0.size : Int))))
end Go.Proofs.Ytbgjoiccehiglaa.Print
end
section
namespace Go.Proofs.Ytbgjoiccehiglaa.LibE
open Go.RowKit Go.Proofs.Ytbgjoiccehiglaa.Print Go.Proofs.YtbgjoiccehiglaaW.PrintWords Go.Proofs.YtbgjoiccehiglaaW.PrintLast Go.Proofs.YtbgjoiccehiglaaW.PrintMore Go.Proofs.Ytbgjoiccehiglaa.LibA Go.Proofs.Ytbgjoiccehiglaa.LibB Go.Proofs.Ytbgjoiccehiglaa.LibC Go.Proofs.Ytbgjoiccehiglaa.LibD
def noText : ByteArray := ⟨#[]⟩
theorem refValid (s : ByteArray) (hs : s.size ≤ 140737488351232) (k : Nat) (hk : s.size + 1 ≤ k) : bonsairef04_Valid.f k s = some (decide (Vld s)) := by
  obtain ⟨c, j, t⟩ := tells s hs
  have hc : c ≤ s.size := by have := t.few; have := t.hi; omega
  have := t.refValid hs (k - (c + 1))
  rw [show c + 1 + (k - (c + 1)) = k by omega, t.wordValid] at this
  exact this
theorem take_both (s : ByteArray) (hs : s.size ≤ 140737488351232) (a most : Int) (hm0 : -9223372036854775808 ≤ most) (hm1 : most ≤ 9223372036854775807) :
    ∃ (t : ByteArray) (b e : Int), (∀ k, s.size + 60 ≤ k → word_Take.f k s a most = some (t, b, e) ∧ bonsairef04_Take.f k s a most = some (t, b, e)) ∧
      (e ≠ 0 → t = noText ∧ b = 0) ∧
      (e = 0 → 0 ≤ a ∧ ∃ v n : Int, Vld t ∧ 0 ≤ n ∧ n ≤ most ∧ (t.size : Int) = n ∧ a < b - n ∧ b ≤ s.size ∧ t = s.extract (b - n).toNat b.toNat ∧ pack_Reader_Num.f (s.extract a.toNat s.size) 0 = some (n, s.extract v.toNat s.size, 0) ∧ v = b - n) := by
  by_cases ha : a < 0 ∨ (s.size : Int) < a
  · refine ⟨noText, 0, 1, fun k hk => ?_, fun _ => ⟨rfl, rfl⟩, fun h => absurd h (by decide)⟩
    obtain ⟨k, rfl⟩ : ∃ m, k = m + 1 := ⟨k - 1, by omega⟩
    unfold word_Take.f bonsairef04_Take.f
    by_cases h : a < 0
    · rw [if_pos h, if_pos h]
      simp only [word_Take.j0, bonsairef04_Take.j0, if_true]
      exact ⟨rfl, rfl⟩
    · rw [if_neg h, if_neg h, decide_eq_true (show a > (s.size : Int) by omega)]
      simp only [word_Take.j0, bonsairef04_Take.j0, if_true]
      exact ⟨rfl, rfl⟩
  have hS := Sim.begin s hs a (by omega) (by omega)
  obtain ⟨v, r', e', a', hp, hr, hS', hv0, hv1, _, he2, he3, he4⟩ := hS.num 0
  have hfin : ∀ k, 2 ≤ k → ∃ m, k = m + 2 := fun k hk => ⟨k - 2, by omega⟩
  have start : ∀ k, word_Take.f (k + 2) s a most = word_Take.j0 (k + 2) s a most false ∧ bonsairef04_Take.f (k + 2) s a most = bonsairef04_Take.j0 (k + 2) s a most false := fun k => by
    unfold word_Take.f bonsairef04_Take.f
    rw [if_neg (by omega), if_neg (by omega), decide_eq_false (show ¬ a > (s.size : Int) by omega)]
    exact ⟨rfl, rfl⟩
  by_cases he : e' = 0
  · subst he
    have hsz' := hS'.size
    have hlo' := hS'.lo
    have hr's : r'.size ≤ s.size := by omega
    by_cases hbig : most < 0 ∨ v > IntKind.u64.wrap most
    · refine ⟨noText, 0, 10, fun k hk => ?_, fun _ => ⟨rfl, rfl⟩, fun h => absurd h (by decide)⟩
      obtain ⟨k, rfl⟩ := hfin k (by omega)
      rw [(start k).1, (start k).2]
      simp only [word_Take.j0, bonsairef04_Take.j0, word_Take.j1, bonsairef04_Take.j1, Bool.false_eq_true, if_false, pack_New.f, Option.bind_some]
      rw [if_pos (by omega), if_pos (by omega), hp, hr (k + 1) (by omega)]
      simp only [Option.bind_some, pack_Reader_Err.f, if_true]
      by_cases hm : most < 0
      · rw [if_pos hm, if_pos hm]; exact ⟨rfl, rfl⟩
      · rw [if_neg hm, if_neg hm, decide_eq_true (show v > IntKind.u64.wrap most by omega)]; simp only [if_true]; exact ⟨rfl, rfl⟩
    · have hw : IntKind.u64.wrap most = most := pack_wraps_u64 most (by omega) (by omega)
      have hl := hS'.left 0
      have hwl : IntKind.u64.wrap (r'.size : Int) = r'.size := pack_wraps_u64 _ (by omega) (by omega)
      have go : ∀ k, word_Take.f (k + 2) s a most = word_Take.j1 (k + 1) s v false r' 0 ∧ (30 ≤ k → bonsairef04_Take.f (k + 2) s a most = bonsairef04_Take.j1 (k + 1) v false s a' 0) := fun k => by
        rw [(start k).1, (start k).2]
        simp only [word_Take.j0, bonsairef04_Take.j0, Bool.false_eq_true, if_false, pack_New.f, Option.bind_some]
        rw [if_pos (by omega), if_pos (by omega), hp]
        simp only [Option.bind_some, pack_Reader_Err.f, if_true]
        rw [if_neg (show ¬ most < 0 by omega), decide_eq_false (show ¬ v > IntKind.u64.wrap most by omega)]
        refine ⟨rfl, fun h => ?_⟩
        rw [hr (k + 1) (by omega)]
        simp only [Option.bind_some, if_true]
        rw [if_neg (show ¬ most < 0 by omega), decide_eq_false (show ¬ v > IntKind.u64.wrap most by omega)]
      by_cases hcut : v > (r'.size : Int)
      · refine ⟨noText, 0, 2, fun k hk => ?_, fun _ => ⟨rfl, rfl⟩, fun h => absurd h (by decide)⟩
        obtain ⟨k, rfl⟩ := hfin k (by omega)
        rw [(go k).1, (go k).2 (by omega)]
        simp only [word_Take.j1, bonsairef04_Take.j1, Bool.false_eq_true, if_false]
        rw [hl.1, hl.2]
        simp only [Option.bind_some]
        rw [hwl, if_pos hcut, if_pos hcut]
        exact ⟨rfl, rfl⟩
      · obtain ⟨t1, t2⟩ := hS'.take v hv0 (by omega)
        have hS2 := hS'.go v hv0 (by omega)
        have hl2 := hS2.left 0
        have hts : (r'.extract 0 v.toNat).size = v.toNat := size_take (by omega)
        have hvs : v.toNat ≤ s.size := by omega
        have hwv : word_Valid.f (r'.extract 0 v.toNat) = some (decide (Vld (r'.extract 0 v.toNat))) := wordValid _ (by omega)
        have hrv : ∀ k, s.size + 1 ≤ k → bonsairef04_Valid.f k (r'.extract 0 v.toNat) = some (decide (Vld (r'.extract 0 v.toNat))) := fun k hk => refValid _ (by omega) k (by omega)
        have go2 : ∀ k, s.size + 30 ≤ k → word_Take.f (k + 2) s a most = (if Vld (r'.extract 0 v.toNat) then some (r'.extract 0 v.toNat, a' + v, 0) else some (noText, 0, 4)) ∧ bonsairef04_Take.f (k + 2) s a most = (if Vld (r'.extract 0 v.toNat) then some (r'.extract 0 v.toNat, a' + v, 0) else some (noText, 0, 4)) := fun k hk => by
          rw [(go k).1, (go k).2 (by omega)]
          simp only [word_Take.j1, bonsairef04_Take.j1, Bool.false_eq_true, if_false]
          rw [hl.1, hl.2]
          simp only [Option.bind_some]
          rw [hwl, if_neg hcut, if_neg hcut, w64 (n := v) (by omega) (by omega), t1, t2 k (by omega)]
          simp only [Option.bind_some]
          rw [hwv, hrv k (by omega)]
          simp only [Option.bind_some, decide_eq_true_eq]
          rw [hl2.1]
          simp only [Option.bind_some]
          have := hS2.size
          rw [w64 (n := (s.size : Int) - _) (by omega) (by omega), show (s.size : Int) - ((r'.extract v.toNat r'.size).size : Int) = a' + v by omega]
          exact ⟨rfl, rfl⟩
        by_cases hV : Vld (r'.extract 0 v.toNat)
        · refine ⟨r'.extract 0 v.toNat, a' + v, 0, fun k hk => ?_, fun h => absurd rfl h, fun _ => ⟨by omega, a', v, hV, hv0, by omega, by rw [hts]; omega, by have := he3 rfl; omega, by omega, ?_, ?_, by omega⟩⟩
          · obtain ⟨k, rfl⟩ := hfin k (by omega)
            have := go2 k (by omega)
            rw [if_pos hV] at this
            exact this
          · conv => lhs; rw [hS'.rest]
            rw [ByteArray.extract_extract]
            congr 1
            · omega
            · omega
          · rw [hp, hS'.rest]
        · refine ⟨noText, 0, 4, fun k hk => ?_, fun _ => ⟨rfl, rfl⟩, fun h => absurd h (by decide)⟩
          obtain ⟨k, rfl⟩ := hfin k (by omega)
          have := go2 k (by omega)
          rw [if_neg hV] at this
          exact this
  · refine ⟨noText, 0, e', fun k hk => ?_, fun _ => ⟨rfl, rfl⟩, fun h => absurd h he⟩
    obtain ⟨k, rfl⟩ := hfin k (by omega)
    rw [(start k).1, (start k).2]
    simp only [word_Take.j0, bonsairef04_Take.j0, Bool.false_eq_true, if_false, pack_New.f, Option.bind_some]
    rw [if_pos (by omega), if_pos (by omega), hp, hr (k + 1) (by omega)]
    simp only [Option.bind_some, pack_Reader_Err.f]
    rw [if_neg he, if_neg he]
    exact ⟨rfl, rfl⟩
end Go.Proofs.Ytbgjoiccehiglaa.LibE
end
section
namespace Go.Proofs.Ytbgjoiccehiglaa.LibF
open Go.RowKit Go.Proofs.Ytbgjoiccehiglaa.Print Go.Proofs.YtbgjoiccehiglaaW.PrintWords Go.Proofs.YtbgjoiccehiglaaW.PrintLast Go.Proofs.YtbgjoiccehiglaaW.PrintMore Go.Proofs.Ytbgjoiccehiglaa.LibA Go.Proofs.Ytbgjoiccehiglaa.LibB
theorem bt_app_left {s t : ByteArray} {d : Int} (h0 : 0 ≤ d) (h1 : d < s.size) : bt (s ++ t) d = bt s d := by
  unfold bt
  rw [dif_pos (by rw [ByteArray.size_append]; omega), dif_pos (by omega)]
  rw [ByteArray.getElem_append_left (by omega)]
theorem bt_app_right {s t : ByteArray} {d : Int} (h0 : 0 ≤ d) (h1 : d < t.size) : bt (s ++ t) (s.size + d) = bt t d := by
  unfold bt
  rw [dif_pos (by rw [ByteArray.size_append]; omega), dif_pos (by omega)]
  rw [ByteArray.getElem_append_right (by omega)]
  have e : ((s.size : Int) + d).toNat - s.size = d.toNat := by omega
  simp only [e]
theorem take_all (s : ByteArray) : s.extract 0 s.size = s := by simp
end Go.Proofs.Ytbgjoiccehiglaa.LibF
end
section
namespace Go.Proofs.Ytbgjoiccehiglaa.LibG
open Go.RowKit Go.Proofs.Ytbgjoiccehiglaa.Print Go.Proofs.YtbgjoiccehiglaaW.PrintWords Go.Proofs.YtbgjoiccehiglaaW.PrintLast Go.Proofs.YtbgjoiccehiglaaW.PrintMore Go.Proofs.Ytbgjoiccehiglaa.LibA Go.Proofs.Ytbgjoiccehiglaa.LibB Go.Proofs.Ytbgjoiccehiglaa.LibC Go.Proofs.Ytbgjoiccehiglaa.LibD Go.Proofs.Ytbgjoiccehiglaa.LibE Go.Proofs.Ytbgjoiccehiglaa.LibF
theorem ba_ext {a b : ByteArray} (hs : a.size = b.size) (h : ∀ i : Int, 0 ≤ i → i < a.size → bt a i = bt b i) : a = b := by
  apply ByteArray.ext
  apply Array.ext hs
  intro i h1 h2
  have := h i (by omega) (by have : i < a.size := h1; omega)
  unfold bt at this
  rw [dif_pos (by have : i < a.size := h1; omega), dif_pos (by have : i < b.size := h2; omega)] at this
  have e : (a[((i : Nat) : Int).toNat]'(by have : i < a.size := h1; omega)) = (b[((i : Nat) : Int).toNat]'(by have : i < b.size := h2; omega)) := UInt8.toNat_inj.mp (by omega)
  simpa [ByteArray.getElem_eq_getElem_data] using e
theorem bt_nums {xs : List Int} (hx : ∀ x ∈ xs, 0 ≤ x ∧ x < 256) {i : Nat} (hi : i < xs.length) : bt (strOfNums xs) i = xs[i] := by
  unfold bt
  rw [dif_pos (by rw [strOfNums_size]; omega)]
  have := hx xs[i] (List.getElem_mem hi)
  simp only [strOfNums, ByteArray.getElem_eq_getElem_data, Int.toNat_natCast, List.getElem_toArray, List.getElem_map]
  rw [UInt8.toNat_ofNat']
  omega
theorem putL_bytes : ∀ (d : Nat) (x : Int), 0 ≤ x → x < 128 ^ (d + 1) → ∀ y ∈ putL d x, 0 ≤ y ∧ y < 256
  | 0, x, h0, h1, y, hy => by
    simp [putL] at hy
    subst hy
    omega
  | d + 1, x, h0, h1, y, hy => by
    unfold putL at hy
    split at hy
    · rcases List.mem_cons.mp hy with rfl | hy
      · omega
      · refine putL_bytes d (x / 128) (by omega) ?_ y hy
        rw [Int.pow_succ] at h1
        exact Int.ediv_lt_of_lt_mul (by omega) h1
    · simp at hy
      subst hy
      omega
theorem pow_le {a b : Nat} (h : a ≤ b) : (128 : Int) ^ a ≤ 128 ^ b := by
  induction h with
  | refl => exact Int.le_refl _
  | @step m _ ih => rw [Int.pow_succ]; have : (0 : Int) < 128 ^ a := Int.pow_pos (by decide); omega
theorem pow_pos (n : Nat) : (0 : Int) < 128 ^ n := Int.pow_pos (by decide)
theorem num_put (s : ByteArray) : ∀ (d k : Nat) (i acc x : Int), 0 ≤ x → x < 128 ^ (d + 1) → 0 ≤ i → (i = 0 ∨ 0 < x) → x * 128 ^ i.toNat < 18446744073709551616 → d + 1 ≤ k → i + (putL d x).length ≤ s.size →
    (∀ j (hj : j < (putL d x).length), bt s (i + j) = (putL d x)[j]) → numL s k i acc = (0, acc + x * 128 ^ i.toNat, i + (putL d x).length)
  | d, 0, _, _, _, _, _, _, _, _, hk, _, _ => by omega
  | d, k + 1, i, acc, x, h0, h1, hi0, hx, h64, hk, hs, hb => by
    have hl := putL_length d x
    have hb0 := hb 0 (by omega)
    simp only [Int.add_zero, Int.natCast_zero] at hb0
    have h9 : i < 10 → (i < 9 ∨ x ≤ 1) := fun h => by
      by_cases h9 : i < 9
      · exact .inl h9
      · right
        have : i.toNat = 9 := by omega
        rw [this] at h64
        omega
    have h10 : ¬ i < 10 → x = 0 := fun h => by
      have h2 : (128 : Int) ^ 10 ≤ 128 ^ i.toNat := pow_le (by omega)
      by_cases hx0 : x = 0
      · exact hx0
      · have : 1 * 128 ^ i.toNat ≤ x * 128 ^ i.toNat := Int.mul_le_mul_of_nonneg_right (by omega) (by omega)
        omega
    simp only [numL]
    rw [if_pos (by omega)]
    by_cases hbig : x ≥ 128
    · have h8 : i < 9 := by
        by_cases h : i < 10
        · have := h9 h; omega
        · have := h10 h; omega
      cases d with
      | zero => simp at h1; omega
      | succ d =>
        have hp : putL (d + 1) x = (x % 128 + 128) :: putL d (x / 128) := by show (if x ≥ 128 then _ else _) = _; rw [if_pos hbig]
        have hc : bt s i = x % 128 + 128 := by rw [hb0]; simp only [hp, List.getElem_cons_zero]
        rw [hc, if_pos ⟨.inl h8, .inr (by omega)⟩, if_neg (by omega)]
        have e1 : (x % 128 + 128) % 128 = x % 128 := by omega
        have e2 : (128 : Int) ^ (i + 1).toNat = 128 ^ i.toNat * 128 := by rw [show (i + 1).toNat = i.toNat + 1 by omega, Int.pow_succ]
        have e3 : x * 128 ^ i.toNat = x % 128 * 128 ^ i.toNat + x / 128 * (128 ^ i.toNat * 128) := by
          have h := Int.emod_add_mul_ediv x 128
          conv => lhs; rw [← h]
          rw [Int.add_mul, Int.mul_comm 128 (x / 128), Int.mul_assoc, Int.mul_comm 128 (128 ^ i.toNat)]
        have hm : 0 ≤ x % 128 * 128 ^ i.toNat := Int.mul_nonneg (by omega) (by have := pow_pos i.toNat; omega)
        have := num_put s d k (i + 1) (acc + (x % 128 + 128) % 128 * 128 ^ i.toNat) (x / 128) (by omega) (by rw [Int.pow_succ] at h1; exact Int.ediv_lt_of_lt_mul (by omega) h1) (by omega) (.inr (by omega)) (by rw [e2]; omega) (by omega) (by rw [hp, List.length_cons] at hs; omega)
          (fun j hj => by
            have := hb (j + 1) (by rw [hp, List.length_cons]; omega)
            simp only [hp, List.getElem_cons_succ] at this
            rw [← this]
            congr 1
            omega)
        rw [this, hp, List.length_cons, e1, e2, e3]
        simp only [Prod.mk.injEq, true_and]
        constructor <;> omega
    · have hp : putL d x = [x] := by
        cases d with
        | zero => rfl
        | succ d => show (if x ≥ 128 then _ else _) = _; rw [if_neg hbig]
      have hc : bt s i = x := by rw [hb0]; simp only [hp, List.getElem_cons_zero]
      have hcond : i < 9 ∨ x ≤ 1 := by
        by_cases h : i < 10
        · exact h9 h
        · right; rw [h10 h]; decide
      rw [hc, if_pos ⟨hcond, by omega⟩, if_pos (by omega), hp, show x % 128 = x by omega]
      rfl
theorem num_canon (s : ByteArray) : ∀ (k : Nat) (i acc : Int), 0 ≤ i → i + (k + 1 : Nat) = 10 → (numL s (k + 1) i acc).1 = 0 →
    ∃ x : Int, 0 ≤ x ∧ x < 128 ^ (k + 1) ∧ (i = 0 ∨ 0 < x) ∧ (numL s (k + 1) i acc).2.1 = acc + x * 128 ^ i.toNat ∧ (numL s (k + 1) i acc).2.2 = i + (putL k x).length ∧ i + (putL k x).length ≤ s.size ∧ ∀ j (hj : j < (putL k x).length), bt s (i + j) = (putL k x)[j]
  | k, i, acc, hi, hk, h => by
    simp only [numL] at h ⊢
    have hr := bt_range s i
    by_cases hlt : i < (s.size : Int)
    · rw [if_pos hlt] at h ⊢
      by_cases hok : (i < 9 ∨ bt s i ≤ 1) ∧ (i = 0 ∨ bt s i ≠ 0)
      · rw [if_pos hok] at h ⊢
        by_cases hb : bt s i < 128
        · rw [if_pos hb] at h ⊢
          have hp : putL k (bt s i) = [bt s i] := by
            cases k with
            | zero => rfl
            | succ d => show (if bt s i ≥ 128 then _ else _) = _; rw [if_neg (by omega)]
          refine ⟨bt s i, hr.1, ?_, by omega, by rw [show bt s i % 128 = bt s i by omega], by rw [hp]; rfl, by rw [hp]; simp; omega, fun j hj => ?_⟩
          · have : (128 : Int) ^ 1 ≤ 128 ^ (k + 1) := pow_le (by omega)
            omega
          · simp only [hp, List.length_singleton] at hj ⊢
            have : j = 0 := by omega
            subst this
            simp
        · rw [if_neg hb] at h ⊢
          cases k with
          | zero => omega
          | succ k =>
            obtain ⟨x, h1, h2, h3, h4, h5, h6, h7⟩ := num_canon s k (i + 1) _ (by omega) (by omega) h
            have hx : 0 < x := by omega
            have hp : putL (k + 1) (x * 128 + bt s i % 128) = bt s i :: putL k x := by
              show (if x * 128 + bt s i % 128 ≥ 128 then ((x * 128 + bt s i % 128) % 128 + 128) :: putL k ((x * 128 + bt s i % 128) / 128) else _) = _
              rw [if_pos (by omega), show (x * 128 + bt s i % 128) / 128 = x by omega, show (x * 128 + bt s i % 128) % 128 + 128 = bt s i by omega]
            refine ⟨x * 128 + bt s i % 128, by omega, by rw [Int.pow_succ]; omega, .inr (by omega), ?_, ?_, ?_, ?_⟩
            · rw [h4, show (i + 1).toNat = i.toNat + 1 by omega, Int.pow_succ, Int.add_mul, Int.mul_assoc, Int.mul_comm 128 (128 ^ i.toNat)]
              omega
            · rw [h5, hp, List.length_cons]; omega
            · rw [hp, List.length_cons]; omega
            · intro j hj
              cases j with
              | zero => simp only [hp, List.getElem_cons_zero]; simp
              | succ j =>
                rw [hp, List.length_cons] at hj
                simp only [hp, List.getElem_cons_succ]
                rw [← h7 j (by omega)]
                congr 1
                omega
      · rw [if_neg hok] at h
        cases h
    · rw [if_neg hlt] at h
      cases h
theorem put_read (x : Int) (h0 : 0 ≤ x) (h1 : x < 18446744073709551616) (t : ByteArray) : numL (strOfNums (putL 9 x) ++ t) 10 0 0 = ((0, x, ((putL 9 x).length : Int)) : Int × Int × Int) := by
  have hx : x < 128 ^ (9 + 1) := by omega
  have hs : (strOfNums (putL 9 x)).size = (putL 9 x).length := strOfNums_size _
  have := num_put (strOfNums (putL 9 x) ++ t) 9 10 0 0 x h0 hx (by omega) (.inl rfl) (by simpa using h1) (by omega) (by rw [ByteArray.size_append, hs]; omega) (fun j hj => by
    rw [Int.zero_add, bt_app_left (by omega) (by rw [hs]; omega)]
    exact bt_nums (putL_bytes 9 x h0 hx) hj)
  rw [this]
  simp
theorem read_put (s : ByteArray) (h : (numL s 10 0 0).1 = 0) : s.extract 0 (numL s 10 0 0).2.2.toNat = strOfNums (putL 9 (numL s 10 0 0).2.1) := by
  obtain ⟨x, h1, h2, _, h4, h5, h6, h7⟩ := num_canon s 9 0 0 (by omega) (by omega) h
  have e4 : (numL s 10 0 0).2.1 = x := by simpa using h4
  have e5 : (numL s 10 0 0).2.2 = (putL 9 x).length := by simpa using h5
  have h6' : (putL 9 x).length ≤ s.size := by omega
  rw [e4, e5, Int.toNat_natCast]
  refine ba_ext (by rw [size_take h6', strOfNums_size]) (fun i h0 hi => ?_)
  rw [size_take h6'] at hi
  obtain ⟨j, rfl⟩ := Int.eq_ofNat_of_zero_le h0
  rw [bt_take h6' h0 hi, bt_nums (putL_bytes 9 x h1 h2) (by omega)]
  have := h7 j (by omega)
  rwa [Int.zero_add] at this
theorem app_cut (a b : ByteArray) : (a ++ b).extract a.size (a ++ b).size = b := by
  refine ba_ext (by rw [ByteArray.size_extract, ByteArray.size_append]; omega) (fun i h0 hi => ?_)
  rw [ByteArray.size_extract, ByteArray.size_append] at hi
  rw [bt_drop (Nat.le_refl _) h0 (by rw [ByteArray.size_append]; omega), bt_app_right h0 (by omega)]
theorem app_take (a b : ByteArray) : (a ++ b).extract 0 a.size = a := by
  have hs : a.size ≤ (a ++ b).size := by rw [ByteArray.size_append]; omega
  refine ba_ext (size_take hs) (fun i h0 hi => ?_)
  rw [size_take hs] at hi
  rw [bt_take hs h0 (by omega), bt_app_left h0 (by omega)]
theorem take_drop (s : ByteArray) (n : Nat) (hn : n ≤ s.size) : s.extract 0 n ++ s.extract n s.size = s := by
  refine ba_ext (by rw [ByteArray.size_append, size_take hn, ByteArray.size_extract]; omega) (fun i h0 hi => ?_)
  rw [ByteArray.size_append, size_take hn, ByteArray.size_extract] at hi
  by_cases h : i < n
  · rw [bt_app_left h0 (by rw [size_take hn]; exact h), bt_take hn h0 h]
  · obtain ⟨j, rfl⟩ : ∃ j, i = ((s.extract 0 n).size : Int) + j := ⟨i - n, by rw [size_take hn]; omega⟩
    rw [size_take hn] at h hi
    rw [bt_app_right (by omega) (by rw [ByteArray.size_extract]; omega), bt_drop (Nat.le_refl _) (by omega) (by omega), size_take hn]
theorem take_put (t u : ByteArray) (a : ByteArray) (most : Int) (hm0 : 0 ≤ most) (hm1 : most ≤ 9223372036854775807) (ht : (t.size : Int) ≤ most) (hs : (a ++ ((strOfNums (putL 9 t.size) ++ t) ++ u)).size ≤ 140737488351232) (k : Nat) (hk : (a ++ ((strOfNums (putL 9 t.size) ++ t) ++ u)).size + 60 ≤ k) :
    word_Take.f k (a ++ ((strOfNums (putL 9 t.size) ++ t) ++ u)) a.size most = some (if Vld t then (t, ((a.size + (strOfNums (putL 9 t.size) ++ t).size : Nat) : Int), 0) else (noText, 0, 4)) := by
  obtain ⟨k, rfl⟩ : ∃ m, k = m + 2 := ⟨k - 2, by omega⟩
  have hz : (a ++ ((strOfNums (putL 9 t.size) ++ t) ++ u)).size = a.size + ((putL 9 t.size).length + t.size + u.size) := by simp only [ByteArray.size_append, strOfNums_size]
  have hl := putL_length 9 (t.size : Int)
  have hrest : (a ++ ((strOfNums (putL 9 t.size) ++ t) ++ u)).extract (a.size : Int).toNat (a ++ ((strOfNums (putL 9 t.size) ++ t) ++ u)).size = strOfNums (putL 9 t.size) ++ (t ++ u) := by
    rw [Int.toNat_natCast, app_cut, ByteArray.append_assoc]
  have hnum := put_read (t.size : Int) (by omega) (by omega) (t ++ u)
  have hnb : (strOfNums (putL 9 t.size) ++ (t ++ u)).size = (putL 9 t.size).length + (t.size + u.size) := by simp only [ByteArray.size_append, strOfNums_size]
  unfold word_Take.f
  rw [if_neg (by omega), decide_eq_false (by omega)]
  simp only [word_Take.j0, Bool.false_eq_true, if_false, pack_New.f, Option.bind_some]
  rw [if_pos (by omega), if_pos (by omega), hrest]
  have hN : pack_Reader_Num.f (strOfNums (putL 9 t.size) ++ (t ++ u)) 0 = some ((t.size : Int), t ++ u, 0) := by
    unfold pack_Reader_Num.f
    rw [if_pos (by omega), if_pos rfl, hnum, if_pos rfl]
    congr 3
    rw [Int.toNat_natCast]
    have := app_cut (strOfNums (putL 9 t.size)) (t ++ u)
    rwa [strOfNums_size] at this
  rw [hN]
  simp only [Option.bind_some, pack_Reader_Err.f, if_true]
  rw [if_neg (show ¬ most < 0 by omega), decide_eq_false (show ¬ (t.size : Int) > IntKind.u64.wrap most by rw [pack_wraps_u64 most (by omega) (by omega)]; omega)]
  simp only [word_Take.j1, Bool.false_eq_true, if_false, pack_Reader_Left.f, Option.bind_some]
  have htu : (t ++ u).size = t.size + u.size := ByteArray.size_append
  rw [pack_wraps_u64 _ (by omega) (by omega), if_neg (by omega), w64 (n := (t.size : Int)) (by omega) (by omega)]
  have hT : pack_Reader_Take.f (t ++ u) 0 (t.size : Int) = some (t, u, 0) := by
    unfold pack_Reader_Take.f
    rw [if_pos rfl, if_pos ⟨by omega, by omega⟩, Int.toNat_natCast, app_take, app_cut]
  rw [hT]
  simp only [Option.bind_some]
  rw [wordValid t (by omega)]
  simp only [Option.bind_some, decide_eq_true_eq]
  split
  · rw [w64 (by omega) (by omega)]
    congr 3
    simp only [ByteArray.size_append, strOfNums_size]
    omega
  · rfl
end Go.Proofs.Ytbgjoiccehiglaa.LibG
end
