/- Part 5 of what RowsReads stands on: merged by a program of this session out of its texts. -/
import Derived.Test.YtfgnjndfnijjoaaCRowsReads4
section
namespace Go.Proofs.Ytfgnjndfnijjoaa.Print
open Go.RowKit Go.Proofs.YtfgnjndfnijjoaaW.PrintWords Go.Proofs.YtfgnjndfnijjoaaW.PrintLast Go.Proofs.YtfgnjndfnijjoaaW.PrintMore
attribute [local go_sem] max2_int min2_int max_two min_two max_three min_three max_four min_four
attribute [local go_sem] run_store_float
set_option linter.unusedVariables false
set_option linter.unusedSimpArgs false
mutual
def bonsairef21_Decode.l0 : Nat → ByteArray → Int → List (S30) → Int → ByteArray → Int → Int → Option ((List (S30)) × Int)
  | 0, _, _, _, _, _, _, _ => none
  | k + 1, x0, x7, x8, x9, x311000, x311001, x311002 => if x9 < (wrap64 (x7)) then ((bonsairef03_Reader_Num.f k x311000 x311001 x311002).bind fun bt319 => ((bonsairef03_Reader_Num.f k bt319.2.1 bt319.2.2.1 bt319.2.2.2).bind fun bt323 => ((bonsairef03_Reader_Num.f k bt323.2.1 bt323.2.2.1 bt323.2.2.2).bind fun bt327 => ((bonsairef03_Reader_Num.f k bt327.2.1 bt327.2.2.1 bt327.2.2.2).bind fun bt331 => (if bt331.2.2.2 = 0 then ((bonsairef04_Take.f k x0 bt331.2.2.1 64).bind fun bt335 => (if bt335.2.2 = 0 then ((bonsairef03_Reader_Fix.f k bt331.2.1 bt335.2.1 bt331.2.2.2).bind fun bt338 => (if bt338.2.2.2 = 0 then ((bonsairef01_Canon.f bt338.1).bind fun t342 => (if t342 = true then (if bt319.1 ≥ 9223372036854775808 then (bonsairef21_Decode.j1 k x0 x7 x8 x9 bt319.1 bt323.1 bt327.1 bt331.1 bt335.1 bt338.1 true bt338.2.1 bt338.2.2.1 bt338.2.2.2) else (if bt323.1 ≥ 9223372036854775808 then (bonsairef21_Decode.j1 k x0 x7 x8 x9 bt319.1 bt323.1 bt327.1 bt331.1 bt335.1 bt338.1 true bt338.2.1 bt338.2.2.1 bt338.2.2.2) else (if bt327.1 ≥ 9223372036854775808 then (bonsairef21_Decode.j1 k x0 x7 x8 x9 bt319.1 bt323.1 bt327.1 bt331.1 bt335.1 bt338.1 true bt338.2.1 bt338.2.2.1 bt338.2.2.2) else (bonsairef21_Decode.j1 k x0 x7 x8 x9 bt319.1 bt323.1 bt327.1 bt331.1 bt335.1 bt338.1 (decide (bt331.1 ≥ 9223372036854775808)) bt338.2.1 bt338.2.2.1 bt338.2.2.2)))) else (bonsairef21_Decode.j1 k x0 x7 x8 x9 bt319.1 bt323.1 bt327.1 bt331.1 bt335.1 bt338.1 true bt338.2.1 bt338.2.2.1 bt338.2.2.2))) else (some (([] : List (S30)), bt338.2.2.2)))) else (some (([] : List (S30)), bt335.2.2)))) else (some (([] : List (S30)), bt331.2.2.2))))))) else ((bonsairef03_Reader_Left.f x311000 x311001 x311002).bind fun bt315 => (if bt315.1 > 0 then (some (([] : List (S30)), 5)) else (some (x8, 0))))
def bonsairef21_Decode.j1 : Nat → ByteArray → Int → List (S30) → Int → Int → Int → Int → Int → ByteArray → Int → Bool → ByteArray → Int → Int → Option ((List (S30)) × Int)
  | 0, _, _, _, _, _, _, _, _, _, _, _, _, _, _ => none
  | k + 1, x0, x7, x8, x9, x10, x11, x12, x13, x14, x17, x114, x311000, x311001, x311002 => if x114 = true then (some (([] : List (S30)), 5)) else ((bonsairef01_Float.f x17).bind fun t343 => ((bonsairef13_One.f k (wrap64 (x10)) (wrap64 (x11)) (wrap64 (x12)) (wrap64 (x13)) x14 t343).bind fun t346 => (if t346 = true then (if x9 > 0 then (if 0 ≤ (wrap64 (x9 - 1)) then (if (wrap64 (x9 - 1)) < (x8.length : Int) then ((bonsairef02_Before.f ((rd_T30 x8 (wrap64 (x9 - 1))).f0.f0) ((rd_T30 x8 (wrap64 (x9 - 1))).f0.f1) (wrap64 (x10)) (wrap64 (x11))).bind fun t348 => (if t348 = true then (if x8.length < 2513169434916 then (bonsairef21_Decode.l0 k x0 x7 (x8 ++ [(⟨(⟨wrap64 (x10), wrap64 (x11)⟩ : S27), wrap64 (x12), wrap64 (x13), x14, t343⟩ : S30)]) (wrap64 (x9 + 1)) x311000 x311001 x311002) else (none)) else (some (([] : List (S30)), 12)))) else (none)) else (none)) else (if x8.length < 2513169434916 then (bonsairef21_Decode.l0 k x0 x7 (x8 ++ [(⟨(⟨wrap64 (x10), wrap64 (x11)⟩ : S27), wrap64 (x12), wrap64 (x13), x14, t343⟩ : S30)]) (wrap64 (x9 + 1)) x311000 x311001 x311002) else (none))) else (some (([] : List (S30)), 5)))))
end
def bonsairef21_Decode.f (k : Nat) (a0 : ByteArray) : Option ((List (S30)) × Int) := (bonsairef11_Version.f k a0).bind fun bt308 => (if bt308.2 = 0 then (if bt308.1 = 1 then ((bonsairef03_Reader_Num.f k a0 5 0).bind fun bt311 => (if bt311.2.2.2 = 0 then (if bt311.1 > 2000 then (some (([] : List (S30)), 10)) else (bonsairef21_Decode.l0 k a0 bt311.1 ([] : List (S30)) 0 bt311.2.1 bt311.2.2.1 bt311.2.2.2)) else (some (([] : List (S30)), bt311.2.2.2)))) else (some (([] : List (S30)), 8))) else (some (([] : List (S30)), bt308.2)))
def bonsairef21_Decode.T34 : Bool × List (List Nat × List Nat) := (true, [([], []), ([0], [0]), ([1], [1]), ([2], [2]), ([2], [2]), ([4, 2], [2, 4]), ([3, 5, 2], [2, 3, 5]), ([6, 2], [2, 6]), ([7, 2], [2, 7]), ([2], [2]), ([9, 2], [2, 9]), ([8, 10, 2, 2], [2, 8, 10]), ([11, 2], [2, 11]), ([2, 12], [2, 12])])
def bonsairef21_Decode.B34 : List Nat := [0, 1, 3, 7, 7, 23, 63, 127, 255, 7, 519, 2047, 4095, 8191]
theorem bonsairef21_Decode.tab34 : rtab .any (opsOf Try.f14 34) = bonsairef21_Decode.T34 := by kernel_rfl
theorem bonsairef21_Decode.bits34 : waitsOk bonsairef21_Decode.T34.2 bonsairef21_Decode.B34 = true := by kernel_rfl
set_option maxHeartbeats 8000000 in
set_option maxRecDepth 100000 in
theorem bonsairef21_Decode.calls (k : Nat) (a0 : ByteArray) (r1 : List (S30)) (r2 : Int) (w : World) (h : bonsairef21_Decode.f k a0 = some (r1, r2)) :
    Calls Try.prog 14 #[.string a0] w fun e w' => ∃ v0_ : Value, e = .returned (.tuple #[v0_, .int .i64 r2]) ∧ Kd.R k30 30 w' w.heap.size (fun _ => True) v0_ r1 ∧ Below w.heap.size w w' := by
  have hu68 := Try.underlying68
  have hu27 := Try.underlying27
  have hu30 := Try.underlying30
  have HB := Aside0.mk (Below.refl w.heap.size w)
  have H : ((bonsairef11_Version.f k a0).bind fun bt308 => (if bt308.2 = 0 then (if bt308.1 = 1 then ((bonsairef03_Reader_Num.f k a0 5 0).bind fun bt311 => (if bt311.2.2.2 = 0 then (if bt311.1 > 2000 then (some (([] : List (S30)), 10)) else (bonsairef21_Decode.l0 k a0 bt311.1 ([] : List (S30)) 0 bt311.2.1 bt311.2.2.1 bt311.2.2.2)) else (some (([] : List (S30)), bt311.2.2.2)))) else (some (([] : List (S30)), 8))) else (some (([] : List (S30)), bt308.2)))) = some (r1, r2) := h
  clear h
  replace H := Option.bind_eq_some_iff.mp H
  obtain ⟨⟨t308, t309⟩, A20, H⟩ := H
  replace H : (if t309 = 0 then (if t308 = 1 then ((bonsairef03_Reader_Num.f k a0 5 0).bind fun bt311 => (if bt311.2.2.2 = 0 then (if bt311.1 > 2000 then (some (([] : List (S30)), 10)) else (bonsairef21_Decode.l0 k a0 bt311.1 ([] : List (S30)) 0 bt311.2.1 bt311.2.2.1 bt311.2.2.2)) else (some (([] : List (S30)), bt311.2.2.2)))) else (some (([] : List (S30)), 8))) else (some (([] : List (S30)), t309))) = some (r1, r2) := H
  have A2 := Aside0.mk A20
  clear A20
  by_cases c3 : t309 = 0
  · rw [if_pos c3] at H
    have c3b0 : (t309 == 0) = true := beq_iff_eq.mpr c3
    have c3b1 : (t309 != 0) = false := bne_eq_false_iff_eq.mpr c3
    clear c3
    by_cases c4 : t308 = 1
    · rw [if_pos c4] at H
      have c4b0 : (t308 == 1) = true := beq_iff_eq.mpr c4
      have c4b1 : (t308 != 1) = false := bne_eq_false_iff_eq.mpr c4
      clear c4
      replace H := Option.bind_eq_some_iff.mp H
      obtain ⟨⟨t311, t312, t313, t314⟩, A50, H⟩ := H
      replace H : (if t314 = 0 then (if t311 > 2000 then (some (([] : List (S30)), 10)) else (bonsairef21_Decode.l0 k a0 t311 ([] : List (S30)) 0 t312 t313 t314)) else (some (([] : List (S30)), t314))) = some (r1, r2) := H
      have A5 := Aside0.mk A50
      clear A50
      by_cases c6 : t314 = 0
      · rw [if_pos c6] at H
        have c6b0 : (t314 == 0) = true := beq_iff_eq.mpr c6
        have c6b1 : (t314 != 0) = false := bne_eq_false_iff_eq.mpr c6
        clear c6
        by_cases c7 : t311 > 2000
        · rw [if_pos c7] at H
          have c7b0 : decide (2000 < t311) = true := decide_eq_true c7
          clear c7
          simp only [Option.some.injEq, Prod.mk.injEq] at H
          obtain ⟨rfl, rfl⟩ := H
          go_enter Try.func14, Try.ntmps14
          go_wp2_with (first | ((with_reducible refine gate_callee (f := 35) rfl ?_); refine goesL_ (some 21) rfl rfl Try.func35 (by kernel_rfl) rfl #[.string a0] rfl (by (try simp only [List.map_toArray, List.map_cons, List.map_nil]); first | done | rfl | (simp only [List.length_drop, List.length_take]; rfl)) ?_; (with_reducible refine (bonsairef11_Version.calls k a0 t308 t309 _ A2.out).mono ?_); rintro e w' ⟨rfl, ⟨nd, rfl⟩⟩; refine ⟨_, rfl, ?_⟩) | ((with_reducible refine gate_dst (N := 31) rfl ?_); refine box_event ?hg (N := 31) ?hd (cs := #[.string a0, .int .i64 5, .int .i64 0]) (t := 68) ?hr ?_; (case hd => rfl); (case hg => rfl); (case hr => first | (go_simp; done) | (go_simp; rfl)); intro gb310 hg w8 hbox hb; have n0_ := Aside0.mk (below_step (by repeat (first | (with_reducible first | exact HB.out | apply below_alloc | apply pw_below_drewN | apply below_drew1) | exact HB.out)) hb); have n1_ := Aside0.mk ((by rw [hg]; exact (below_size (by repeat (first | (with_reducible first | exact HB.out | apply below_alloc | apply pw_below_drewN | apply below_drew1) | exact HB.out))) : w.heap.size ≤ gb310)); have n2_ := Aside0.mk ((by rw [hg]; exact (below_size (by repeat (first | (with_reducible first | exact HB.out | apply below_alloc | apply pw_below_drewN | apply below_drew1) | exact HB.out))) : w.heap.size ≤ gb310)); have n3_ := Aside0.mk ((show IsS68 w w8 gb310 a0 5 0 from ⟨hbox, (by rw [hg]; exact (below_size (by repeat (first | (with_reducible first | exact HB.out | apply below_alloc | apply pw_below_drewN | apply below_drew1) | exact HB.out))) : w.heap.size ≤ gb310)⟩)); clear HB; have HB := n0_; have GW310 := n1_; have GE310 := n2_; have HI310 := n3_; clear n0_ n1_ n2_ n3_; clear hb hbox hg) | ((with_reducible refine gate_callee (f := 36) rfl ?_); refine goesL_ (some 33) rfl rfl Try.func36 (by kernel_rfl) rfl #[.pointer (some ⟨gb310, 0, none⟩)] rfl (by (try simp only [List.map_toArray, List.map_cons, List.map_nil]); first | done | rfl | (simp only [List.length_drop, List.length_take]; rfl)) ?_; (with_reducible refine (bonsairef03_Reader_Num.calls k gb310 a0 5 0 t311 t312 t313 t314 w _ ?side1 ?side2 A5.out).mono ?_); (case side1 => repeat (first | (with_reducible first | exact HI310.out | apply IsS68.alloc | apply IsS68.drewN | apply IsS68.drew | apply IsS68.set_0 | apply IsS68.set_1 | apply IsS68.set_2) | exact HI310.out)); (case side2 => repeat (first | (with_reducible first | exact HB.out | apply below_alloc | apply pw_below_drewN | apply below_drew1 | refine below_set ?_ (IsS68.ge HI310.out)) | exact HB.out)); rintro e w9 ⟨rfl, hi, hb, hk⟩; refine ⟨_, rfl, ?_⟩; have n0_ := Aside0.mk (hb); have n1_ := Aside0.mk (hi); clear HB; clear HI310; have HB := n0_; have HI310 := n1_; clear n0_ n1_; (try clear hb); (try clear hb2); (try clear hk); (try clear hi); obtain ⟨HGz10, hgz10⟩ := HI310.out; have hcz10_0 := cellS68_0 HGz10; have hcz10_1 := cellS68_1 HGz10; have hcz10_2 := cellS68_2 HGz10; have hfz10_0 := blk_frozen HGz10 0; have hfz10_1 := blk_frozen HGz10 1; have hfz10_2 := blk_frozen HGz10 2; clear HGz10 hgz10))
          go_ret2
          exact ⟨_, by first | rfl | (simp [errW_none, errW_some] <;> rfl) | (simp [*, errW_none, errW_some] <;> rfl), by first | exact Kd.R_nil _ _ _ _ _ | exact Kd.N_nil _ _ _ _ _ | exact Kd.V_nil _ _ _ _ _ | exact Kd.Q_nil _ _ _ _ _ | exact Kd.S_nil _ _ _ _ _, by repeat (first | (with_reducible first | exact HB.out | apply below_alloc | apply pw_below_drewN | apply below_drew1 | refine below_set ?_ (IsS68.ge HI310.out)) | exact HB.out)⟩
        · rw [if_neg c7] at H
          have c7b0 : decide (2000 < t311) = false := decide_eq_false c7
          clear c7
          have H' := Aside0.mk H
          clear H
          go_enter Try.func14, Try.ntmps14
          go_wp2_with (first | ((with_reducible refine gate_callee (f := 35) rfl ?_); refine goesL_ (some 21) rfl rfl Try.func35 (by kernel_rfl) rfl #[.string a0] rfl (by (try simp only [List.map_toArray, List.map_cons, List.map_nil]); first | done | rfl | (simp only [List.length_drop, List.length_take]; rfl)) ?_; (with_reducible refine (bonsairef11_Version.calls k a0 t308 t309 _ A2.out).mono ?_); rintro e w' ⟨rfl, ⟨nd, rfl⟩⟩; refine ⟨_, rfl, ?_⟩) | ((with_reducible refine gate_dst (N := 31) rfl ?_); refine box_event ?hg (N := 31) ?hd (cs := #[.string a0, .int .i64 5, .int .i64 0]) (t := 68) ?hr ?_; (case hd => rfl); (case hg => rfl); (case hr => first | (go_simp; done) | (go_simp; rfl)); intro gb310 hg w11 hbox hb; have n0_ := Aside0.mk (below_step (by repeat (first | (with_reducible first | exact HB.out | apply below_alloc | apply pw_below_drewN | apply below_drew1) | exact HB.out)) hb); have n1_ := Aside0.mk ((by rw [hg]; exact (below_size (by repeat (first | (with_reducible first | exact HB.out | apply below_alloc | apply pw_below_drewN | apply below_drew1) | exact HB.out))) : w.heap.size ≤ gb310)); have n2_ := Aside0.mk ((by rw [hg]; exact (below_size (by repeat (first | (with_reducible first | exact HB.out | apply below_alloc | apply pw_below_drewN | apply below_drew1) | exact HB.out))) : w.heap.size ≤ gb310)); have n3_ := Aside0.mk ((show IsS68 w w11 gb310 a0 5 0 from ⟨hbox, (by rw [hg]; exact (below_size (by repeat (first | (with_reducible first | exact HB.out | apply below_alloc | apply pw_below_drewN | apply below_drew1) | exact HB.out))) : w.heap.size ≤ gb310)⟩)); clear HB; have HB := n0_; have GW310 := n1_; have GE310 := n2_; have HI310 := n3_; clear n0_ n1_ n2_ n3_; clear hb hbox hg) | ((with_reducible refine gate_callee (f := 36) rfl ?_); refine goesL_ (some 33) rfl rfl Try.func36 (by kernel_rfl) rfl #[.pointer (some ⟨gb310, 0, none⟩)] rfl (by (try simp only [List.map_toArray, List.map_cons, List.map_nil]); first | done | rfl | (simp only [List.length_drop, List.length_take]; rfl)) ?_; (with_reducible refine (bonsairef03_Reader_Num.calls k gb310 a0 5 0 t311 t312 t313 t314 w _ ?side1 ?side2 A5.out).mono ?_); (case side1 => repeat (first | (with_reducible first | exact HI310.out | apply IsS68.alloc | apply IsS68.drewN | apply IsS68.drew | apply IsS68.set_0 | apply IsS68.set_1 | apply IsS68.set_2) | exact HI310.out)); (case side2 => repeat (first | (with_reducible first | exact HB.out | apply below_alloc | apply pw_below_drewN | apply below_drew1 | refine below_set ?_ (IsS68.ge HI310.out)) | exact HB.out)); rintro e w12 ⟨rfl, hi, hb, hk⟩; refine ⟨_, rfl, ?_⟩; have n0_ := Aside0.mk (hb); have n1_ := Aside0.mk (hi); clear HB; clear HI310; have HB := n0_; have HI310 := n1_; clear n0_ n1_; (try clear hb); (try clear hb2); (try clear hk); (try clear hi); obtain ⟨HGz13, hgz13⟩ := HI310.out; have hcz13_0 := cellS68_0 HGz13; have hcz13_1 := cellS68_1 HGz13; have hcz13_2 := cellS68_2 HGz13; have hfz13_0 := blk_frozen HGz13 0; have hfz13_1 := blk_frozen HGz13 1; have hfz13_2 := blk_frozen HGz13 2; clear HGz13 hgz13))
          go_loopg [8, 9] k (fun kq v8 v9 w' => ∃ (x8_1 : List (S30)) (x9_1 : Int) (x311000_1 : ByteArray) (x311001_1 : Int) (x311002_1 : Int), v9 = .int .i64 x9_1 ∧ Aside0 (bonsairef21_Decode.l0 kq a0 t311 x8_1 x9_1 x311000_1 x311001_1 x311002_1 = some (r1, r2)) ∧ Aside0 (kq ≤ k) ∧ Aside0 (Kd.R k30 30 w' w.heap.size (fun _ => True) v8 x8_1) ∧ Aside0 (IsS68 w w' gb310 x311000_1 x311001_1 x311002_1) ∧ Aside0 (Below w.heap.size w w'))
          case atStart => exact ⟨(([] : List (S30))), (0), (t312), (t313), (t314), (by first | rfl | (simp; done) | (simp [*]; done)), H', ⟨Nat.le_refl _⟩, ⟨by first | exact Kd.R_nil _ _ _ _ _ | exact Kd.N_nil _ _ _ _ _ | exact Kd.V_nil _ _ _ _ _ | exact Kd.Q_nil _ _ _ _ _ | exact Kd.S_nil _ _ _ _ _⟩, ⟨by repeat (first | (with_reducible first | exact HI310.out | apply IsS68.alloc | apply IsS68.drewN | apply IsS68.drew | apply IsS68.set_0 | apply IsS68.set_1 | apply IsS68.set_2) | exact HI310.out)⟩, ⟨by repeat (first | (with_reducible first | exact HB.out | apply below_alloc | apply pw_below_drewN | apply below_drew1 | refine below_set ?_ (IsS68.ge HI310.out)) | exact HB.out)⟩⟩
          case round =>
            clear H'
            try clear c1
            try clear p2
            try clear c3
            try clear c3b0
            try clear c3b1
            try clear c4
            try clear c4b0
            try clear c4b1
            try clear c6
            try clear c6b0
            try clear c6b1
            try clear c7
            try clear c7b0
            try clear hcz10_0
            try clear hcz10_1
            try clear hcz10_2
            try clear hcz13_0
            try clear hcz13_1
            try clear hcz13_2
            try clear hfz10_0
            try clear hfz10_1
            try clear hfz10_2
            try clear hfz13_0
            try clear hfz13_1
            try clear hfz13_2
            obtain ⟨x8_1, x9_1, x311000_1, x311001_1, x311002_1, rfl, HA, HK1, HO_8, HI310, HB⟩ := hrel
            cases gk with
            | zero => exact absurd HA.out (by simp [bonsairef21_Decode.l0])
            | succ k1 =>
              have H := HA.out
              clear HA
              simp only [bonsairef21_Decode.l0] at H
              by_cases c14 : x9_1 < (wrap64 (t311))
              · rw [if_pos c14] at H
                have c14b0 : decide (x9_1 < (wrap64 (t311))) = true := decide_eq_true c14
                clear c14
                replace H := Option.bind_eq_some_iff.mp H
                obtain ⟨⟨t319, t320, t321, t322⟩, A150, H⟩ := H
                replace H : ((bonsairef03_Reader_Num.f k1 t320 t321 t322).bind fun bt323 => ((bonsairef03_Reader_Num.f k1 bt323.2.1 bt323.2.2.1 bt323.2.2.2).bind fun bt327 => ((bonsairef03_Reader_Num.f k1 bt327.2.1 bt327.2.2.1 bt327.2.2.2).bind fun bt331 => (if bt331.2.2.2 = 0 then ((bonsairef04_Take.f k1 a0 bt331.2.2.1 64).bind fun bt335 => (if bt335.2.2 = 0 then ((bonsairef03_Reader_Fix.f k1 bt331.2.1 bt335.2.1 bt331.2.2.2).bind fun bt338 => (if bt338.2.2.2 = 0 then ((bonsairef01_Canon.f bt338.1).bind fun t342 => (if t342 = true then (if t319 ≥ 9223372036854775808 then (bonsairef21_Decode.j1 k1 a0 t311 x8_1 x9_1 t319 bt323.1 bt327.1 bt331.1 bt335.1 bt338.1 true bt338.2.1 bt338.2.2.1 bt338.2.2.2) else (if bt323.1 ≥ 9223372036854775808 then (bonsairef21_Decode.j1 k1 a0 t311 x8_1 x9_1 t319 bt323.1 bt327.1 bt331.1 bt335.1 bt338.1 true bt338.2.1 bt338.2.2.1 bt338.2.2.2) else (if bt327.1 ≥ 9223372036854775808 then (bonsairef21_Decode.j1 k1 a0 t311 x8_1 x9_1 t319 bt323.1 bt327.1 bt331.1 bt335.1 bt338.1 true bt338.2.1 bt338.2.2.1 bt338.2.2.2) else (bonsairef21_Decode.j1 k1 a0 t311 x8_1 x9_1 t319 bt323.1 bt327.1 bt331.1 bt335.1 bt338.1 (decide (bt331.1 ≥ 9223372036854775808)) bt338.2.1 bt338.2.2.1 bt338.2.2.2)))) else (bonsairef21_Decode.j1 k1 a0 t311 x8_1 x9_1 t319 bt323.1 bt327.1 bt331.1 bt335.1 bt338.1 true bt338.2.1 bt338.2.2.1 bt338.2.2.2))) else (some (([] : List (S30)), bt338.2.2.2)))) else (some (([] : List (S30)), bt335.2.2)))) else (some (([] : List (S30)), bt331.2.2.2)))))) = some (r1, r2) := H
                have A15 := Aside0.mk A150
                clear A150
                replace H := Option.bind_eq_some_iff.mp H
                obtain ⟨⟨t323, t324, t325, t326⟩, A160, H⟩ := H
                replace H : ((bonsairef03_Reader_Num.f k1 t324 t325 t326).bind fun bt327 => ((bonsairef03_Reader_Num.f k1 bt327.2.1 bt327.2.2.1 bt327.2.2.2).bind fun bt331 => (if bt331.2.2.2 = 0 then ((bonsairef04_Take.f k1 a0 bt331.2.2.1 64).bind fun bt335 => (if bt335.2.2 = 0 then ((bonsairef03_Reader_Fix.f k1 bt331.2.1 bt335.2.1 bt331.2.2.2).bind fun bt338 => (if bt338.2.2.2 = 0 then ((bonsairef01_Canon.f bt338.1).bind fun t342 => (if t342 = true then (if t319 ≥ 9223372036854775808 then (bonsairef21_Decode.j1 k1 a0 t311 x8_1 x9_1 t319 t323 bt327.1 bt331.1 bt335.1 bt338.1 true bt338.2.1 bt338.2.2.1 bt338.2.2.2) else (if t323 ≥ 9223372036854775808 then (bonsairef21_Decode.j1 k1 a0 t311 x8_1 x9_1 t319 t323 bt327.1 bt331.1 bt335.1 bt338.1 true bt338.2.1 bt338.2.2.1 bt338.2.2.2) else (if bt327.1 ≥ 9223372036854775808 then (bonsairef21_Decode.j1 k1 a0 t311 x8_1 x9_1 t319 t323 bt327.1 bt331.1 bt335.1 bt338.1 true bt338.2.1 bt338.2.2.1 bt338.2.2.2) else (bonsairef21_Decode.j1 k1 a0 t311 x8_1 x9_1 t319 t323 bt327.1 bt331.1 bt335.1 bt338.1 (decide (bt331.1 ≥ 9223372036854775808)) bt338.2.1 bt338.2.2.1 bt338.2.2.2)))) else (bonsairef21_Decode.j1 k1 a0 t311 x8_1 x9_1 t319 t323 bt327.1 bt331.1 bt335.1 bt338.1 true bt338.2.1 bt338.2.2.1 bt338.2.2.2))) else (some (([] : List (S30)), bt338.2.2.2)))) else (some (([] : List (S30)), bt335.2.2)))) else (some (([] : List (S30)), bt331.2.2.2))))) = some (r1, r2) := H
                have A16 := Aside0.mk A160
                clear A160
                replace H := Option.bind_eq_some_iff.mp H
                obtain ⟨⟨t327, t328, t329, t330⟩, A170, H⟩ := H
                replace H : ((bonsairef03_Reader_Num.f k1 t328 t329 t330).bind fun bt331 => (if bt331.2.2.2 = 0 then ((bonsairef04_Take.f k1 a0 bt331.2.2.1 64).bind fun bt335 => (if bt335.2.2 = 0 then ((bonsairef03_Reader_Fix.f k1 bt331.2.1 bt335.2.1 bt331.2.2.2).bind fun bt338 => (if bt338.2.2.2 = 0 then ((bonsairef01_Canon.f bt338.1).bind fun t342 => (if t342 = true then (if t319 ≥ 9223372036854775808 then (bonsairef21_Decode.j1 k1 a0 t311 x8_1 x9_1 t319 t323 t327 bt331.1 bt335.1 bt338.1 true bt338.2.1 bt338.2.2.1 bt338.2.2.2) else (if t323 ≥ 9223372036854775808 then (bonsairef21_Decode.j1 k1 a0 t311 x8_1 x9_1 t319 t323 t327 bt331.1 bt335.1 bt338.1 true bt338.2.1 bt338.2.2.1 bt338.2.2.2) else (if t327 ≥ 9223372036854775808 then (bonsairef21_Decode.j1 k1 a0 t311 x8_1 x9_1 t319 t323 t327 bt331.1 bt335.1 bt338.1 true bt338.2.1 bt338.2.2.1 bt338.2.2.2) else (bonsairef21_Decode.j1 k1 a0 t311 x8_1 x9_1 t319 t323 t327 bt331.1 bt335.1 bt338.1 (decide (bt331.1 ≥ 9223372036854775808)) bt338.2.1 bt338.2.2.1 bt338.2.2.2)))) else (bonsairef21_Decode.j1 k1 a0 t311 x8_1 x9_1 t319 t323 t327 bt331.1 bt335.1 bt338.1 true bt338.2.1 bt338.2.2.1 bt338.2.2.2))) else (some (([] : List (S30)), bt338.2.2.2)))) else (some (([] : List (S30)), bt335.2.2)))) else (some (([] : List (S30)), bt331.2.2.2)))) = some (r1, r2) := H
                have A17 := Aside0.mk A170
                clear A170
                replace H := Option.bind_eq_some_iff.mp H
                obtain ⟨⟨t331, t332, t333, t334⟩, A180, H⟩ := H
                replace H : (if t334 = 0 then ((bonsairef04_Take.f k1 a0 t333 64).bind fun bt335 => (if bt335.2.2 = 0 then ((bonsairef03_Reader_Fix.f k1 t332 bt335.2.1 t334).bind fun bt338 => (if bt338.2.2.2 = 0 then ((bonsairef01_Canon.f bt338.1).bind fun t342 => (if t342 = true then (if t319 ≥ 9223372036854775808 then (bonsairef21_Decode.j1 k1 a0 t311 x8_1 x9_1 t319 t323 t327 t331 bt335.1 bt338.1 true bt338.2.1 bt338.2.2.1 bt338.2.2.2) else (if t323 ≥ 9223372036854775808 then (bonsairef21_Decode.j1 k1 a0 t311 x8_1 x9_1 t319 t323 t327 t331 bt335.1 bt338.1 true bt338.2.1 bt338.2.2.1 bt338.2.2.2) else (if t327 ≥ 9223372036854775808 then (bonsairef21_Decode.j1 k1 a0 t311 x8_1 x9_1 t319 t323 t327 t331 bt335.1 bt338.1 true bt338.2.1 bt338.2.2.1 bt338.2.2.2) else (bonsairef21_Decode.j1 k1 a0 t311 x8_1 x9_1 t319 t323 t327 t331 bt335.1 bt338.1 (decide (t331 ≥ 9223372036854775808)) bt338.2.1 bt338.2.2.1 bt338.2.2.2)))) else (bonsairef21_Decode.j1 k1 a0 t311 x8_1 x9_1 t319 t323 t327 t331 bt335.1 bt338.1 true bt338.2.1 bt338.2.2.1 bt338.2.2.2))) else (some (([] : List (S30)), bt338.2.2.2)))) else (some (([] : List (S30)), bt335.2.2)))) else (some (([] : List (S30)), t334))) = some (r1, r2) := H
                have A18 := Aside0.mk A180
                clear A180
                by_cases c19 : t334 = 0
                · rw [if_pos c19] at H
                  have c19b0 : (t334 == 0) = true := beq_iff_eq.mpr c19
                  have c19b1 : (t334 != 0) = false := bne_eq_false_iff_eq.mpr c19
                  clear c19
                  replace H := Option.bind_eq_some_iff.mp H
                  obtain ⟨⟨t335, t336, t337⟩, A200, H⟩ := H
                  replace H : (if t337 = 0 then ((bonsairef03_Reader_Fix.f k1 t332 t336 t334).bind fun bt338 => (if bt338.2.2.2 = 0 then ((bonsairef01_Canon.f bt338.1).bind fun t342 => (if t342 = true then (if t319 ≥ 9223372036854775808 then (bonsairef21_Decode.j1 k1 a0 t311 x8_1 x9_1 t319 t323 t327 t331 t335 bt338.1 true bt338.2.1 bt338.2.2.1 bt338.2.2.2) else (if t323 ≥ 9223372036854775808 then (bonsairef21_Decode.j1 k1 a0 t311 x8_1 x9_1 t319 t323 t327 t331 t335 bt338.1 true bt338.2.1 bt338.2.2.1 bt338.2.2.2) else (if t327 ≥ 9223372036854775808 then (bonsairef21_Decode.j1 k1 a0 t311 x8_1 x9_1 t319 t323 t327 t331 t335 bt338.1 true bt338.2.1 bt338.2.2.1 bt338.2.2.2) else (bonsairef21_Decode.j1 k1 a0 t311 x8_1 x9_1 t319 t323 t327 t331 t335 bt338.1 (decide (t331 ≥ 9223372036854775808)) bt338.2.1 bt338.2.2.1 bt338.2.2.2)))) else (bonsairef21_Decode.j1 k1 a0 t311 x8_1 x9_1 t319 t323 t327 t331 t335 bt338.1 true bt338.2.1 bt338.2.2.1 bt338.2.2.2))) else (some (([] : List (S30)), bt338.2.2.2)))) else (some (([] : List (S30)), t337))) = some (r1, r2) := H
                  have A20 := Aside0.mk A200
                  clear A200
                  by_cases c21 : t337 = 0
                  · rw [if_pos c21] at H
                    have c21b0 : (t337 == 0) = true := beq_iff_eq.mpr c21
                    have c21b1 : (t337 != 0) = false := bne_eq_false_iff_eq.mpr c21
                    clear c21
                    replace H := Option.bind_eq_some_iff.mp H
                    obtain ⟨⟨t338, t339, t340, t341⟩, A220, H⟩ := H
                    replace H : (if t341 = 0 then ((bonsairef01_Canon.f t338).bind fun t342 => (if t342 = true then (if t319 ≥ 9223372036854775808 then (bonsairef21_Decode.j1 k1 a0 t311 x8_1 x9_1 t319 t323 t327 t331 t335 t338 true t339 t340 t341) else (if t323 ≥ 9223372036854775808 then (bonsairef21_Decode.j1 k1 a0 t311 x8_1 x9_1 t319 t323 t327 t331 t335 t338 true t339 t340 t341) else (if t327 ≥ 9223372036854775808 then (bonsairef21_Decode.j1 k1 a0 t311 x8_1 x9_1 t319 t323 t327 t331 t335 t338 true t339 t340 t341) else (bonsairef21_Decode.j1 k1 a0 t311 x8_1 x9_1 t319 t323 t327 t331 t335 t338 (decide (t331 ≥ 9223372036854775808)) t339 t340 t341)))) else (bonsairef21_Decode.j1 k1 a0 t311 x8_1 x9_1 t319 t323 t327 t331 t335 t338 true t339 t340 t341))) else (some (([] : List (S30)), t341))) = some (r1, r2) := H
                    have A22 := Aside0.mk A220
                    clear A220
                    by_cases c23 : t341 = 0
                    · rw [if_pos c23] at H
                      have c23b0 : (t341 == 0) = true := beq_iff_eq.mpr c23
                      have c23b1 : (t341 != 0) = false := bne_eq_false_iff_eq.mpr c23
                      clear c23
                      have HC24 := Aside0.mk H
                      clear H
                      go_upto_region 29 with (first | ((with_reducible refine gate_callee (f := 36) rfl ?_); refine goesL_ (some 52) rfl rfl Try.func36 (by kernel_rfl) rfl #[.pointer (some ⟨gb310, 0, none⟩)] rfl (by (try simp only [List.map_toArray, List.map_cons, List.map_nil]); first | done | rfl | (simp only [List.length_drop, List.length_take]; rfl)) ?_; (with_reducible refine (bonsairef03_Reader_Num.calls k1 gb310 x311000_1 x311001_1 x311002_1 t319 t320 t321 t322 w _ ?side1 ?side2 A15.out).mono ?_); (case side1 => repeat (first | (with_reducible first | exact HI310.out | apply IsS68.alloc | apply IsS68.drewN | apply IsS68.drew | apply IsS68.set_0 | apply IsS68.set_1 | apply IsS68.set_2) | exact HI310.out)); (case side2 => repeat (first | (with_reducible first | exact HB.out | apply below_alloc | apply pw_below_drewN | apply below_drew1 | refine below_set ?_ (IsS68.ge HI310.out)) | exact HB.out)); rintro e w25 ⟨rfl, hi, hb, hk⟩; refine ⟨_, rfl, ?_⟩; have n0_ := Aside0.mk (Kd.R_mono (Kd.R_keep (IsS68.apart (show IsS68 w _ gb310 x311000_1 x311001_1 x311002_1 from by repeat (first | (with_reducible first | exact HI310.out | apply IsS68.alloc | apply IsS68.drewN | apply IsS68.drew | apply IsS68.set_0 | apply IsS68.set_1 | apply IsS68.set_2) | exact HI310.out)) (by (with_reducible repeat (first | apply Kd.R_alloc | apply Kd.R_drewN | apply Kd.R_drew)); exact HO_8.out) (by decide)) hk (fun _ h => h.2)) (fun _ h => h.1)); have n1_ := Aside0.mk (hb); have n2_ := Aside0.mk (hi); clear HO_8; clear HB; clear HI310; have HO_8 := n0_; have HB := n1_; have HI310 := n2_; clear n0_ n1_ n2_; (try clear hb); (try clear hb2); (try clear hk); (try clear hi)) | ((with_reducible refine gate_callee (f := 36) rfl ?_); refine goesL_ (some 54) rfl rfl Try.func36 (by kernel_rfl) rfl #[.pointer (some ⟨gb310, 0, none⟩)] rfl (by (try simp only [List.map_toArray, List.map_cons, List.map_nil]); first | done | rfl | (simp only [List.length_drop, List.length_take]; rfl)) ?_; (with_reducible refine (bonsairef03_Reader_Num.calls k1 gb310 t320 t321 t322 t323 t324 t325 t326 w _ ?side1 ?side2 A16.out).mono ?_); (case side1 => repeat (first | (with_reducible first | exact HI310.out | apply IsS68.alloc | apply IsS68.drewN | apply IsS68.drew | apply IsS68.set_0 | apply IsS68.set_1 | apply IsS68.set_2) | exact HI310.out)); (case side2 => repeat (first | (with_reducible first | exact HB.out | apply below_alloc | apply pw_below_drewN | apply below_drew1 | refine below_set ?_ (IsS68.ge HI310.out)) | exact HB.out)); rintro e w26 ⟨rfl, hi, hb, hk⟩; refine ⟨_, rfl, ?_⟩; have n0_ := Aside0.mk (Kd.R_mono (Kd.R_keep (IsS68.apart (show IsS68 w _ gb310 t320 t321 t322 from by repeat (first | (with_reducible first | exact HI310.out | apply IsS68.alloc | apply IsS68.drewN | apply IsS68.drew | apply IsS68.set_0 | apply IsS68.set_1 | apply IsS68.set_2) | exact HI310.out)) (by (with_reducible repeat (first | apply Kd.R_alloc | apply Kd.R_drewN | apply Kd.R_drew)); exact HO_8.out) (by decide)) hk (fun _ h => h.2)) (fun _ h => h.1)); have n1_ := Aside0.mk (hb); have n2_ := Aside0.mk (hi); clear HO_8; clear HB; clear HI310; have HO_8 := n0_; have HB := n1_; have HI310 := n2_; clear n0_ n1_ n2_; (try clear hb); (try clear hb2); (try clear hk); (try clear hi)) | ((with_reducible refine gate_callee (f := 36) rfl ?_); refine goesL_ (some 56) rfl rfl Try.func36 (by kernel_rfl) rfl #[.pointer (some ⟨gb310, 0, none⟩)] rfl (by (try simp only [List.map_toArray, List.map_cons, List.map_nil]); first | done | rfl | (simp only [List.length_drop, List.length_take]; rfl)) ?_; (with_reducible refine (bonsairef03_Reader_Num.calls k1 gb310 t324 t325 t326 t327 t328 t329 t330 w _ ?side1 ?side2 A17.out).mono ?_); (case side1 => repeat (first | (with_reducible first | exact HI310.out | apply IsS68.alloc | apply IsS68.drewN | apply IsS68.drew | apply IsS68.set_0 | apply IsS68.set_1 | apply IsS68.set_2) | exact HI310.out)); (case side2 => repeat (first | (with_reducible first | exact HB.out | apply below_alloc | apply pw_below_drewN | apply below_drew1 | refine below_set ?_ (IsS68.ge HI310.out)) | exact HB.out)); rintro e w27 ⟨rfl, hi, hb, hk⟩; refine ⟨_, rfl, ?_⟩; have n0_ := Aside0.mk (Kd.R_mono (Kd.R_keep (IsS68.apart (show IsS68 w _ gb310 t324 t325 t326 from by repeat (first | (with_reducible first | exact HI310.out | apply IsS68.alloc | apply IsS68.drewN | apply IsS68.drew | apply IsS68.set_0 | apply IsS68.set_1 | apply IsS68.set_2) | exact HI310.out)) (by (with_reducible repeat (first | apply Kd.R_alloc | apply Kd.R_drewN | apply Kd.R_drew)); exact HO_8.out) (by decide)) hk (fun _ h => h.2)) (fun _ h => h.1)); have n1_ := Aside0.mk (hb); have n2_ := Aside0.mk (hi); clear HO_8; clear HB; clear HI310; have HO_8 := n0_; have HB := n1_; have HI310 := n2_; clear n0_ n1_ n2_; (try clear hb); (try clear hb2); (try clear hk); (try clear hi)) | ((with_reducible refine gate_callee (f := 36) rfl ?_); refine goesL_ (some 58) rfl rfl Try.func36 (by kernel_rfl) rfl #[.pointer (some ⟨gb310, 0, none⟩)] rfl (by (try simp only [List.map_toArray, List.map_cons, List.map_nil]); first | done | rfl | (simp only [List.length_drop, List.length_take]; rfl)) ?_; (with_reducible refine (bonsairef03_Reader_Num.calls k1 gb310 t328 t329 t330 t331 t332 t333 t334 w _ ?side1 ?side2 A18.out).mono ?_); (case side1 => repeat (first | (with_reducible first | exact HI310.out | apply IsS68.alloc | apply IsS68.drewN | apply IsS68.drew | apply IsS68.set_0 | apply IsS68.set_1 | apply IsS68.set_2) | exact HI310.out)); (case side2 => repeat (first | (with_reducible first | exact HB.out | apply below_alloc | apply pw_below_drewN | apply below_drew1 | refine below_set ?_ (IsS68.ge HI310.out)) | exact HB.out)); rintro e w28 ⟨rfl, hi, hb, hk⟩; refine ⟨_, rfl, ?_⟩; have n0_ := Aside0.mk (Kd.R_mono (Kd.R_keep (IsS68.apart (show IsS68 w _ gb310 t328 t329 t330 from by repeat (first | (with_reducible first | exact HI310.out | apply IsS68.alloc | apply IsS68.drewN | apply IsS68.drew | apply IsS68.set_0 | apply IsS68.set_1 | apply IsS68.set_2) | exact HI310.out)) (by (with_reducible repeat (first | apply Kd.R_alloc | apply Kd.R_drewN | apply Kd.R_drew)); exact HO_8.out) (by decide)) hk (fun _ h => h.2)) (fun _ h => h.1)); have n1_ := Aside0.mk (hb); have n2_ := Aside0.mk (hi); clear HO_8; clear HB; clear HI310; have HO_8 := n0_; have HB := n1_; have HI310 := n2_; clear n0_ n1_ n2_; (try clear hb); (try clear hb2); (try clear hk); (try clear hi); obtain ⟨HGz29, hgz29⟩ := HI310.out; have hcz29_0 := cellS68_0 HGz29; have hcz29_1 := cellS68_1 HGz29; have hcz29_2 := cellS68_2 HGz29; have hfz29_0 := blk_frozen HGz29 0; have hfz29_1 := blk_frozen HGz29 1; have hfz29_2 := blk_frozen HGz29 2; clear HGz29 hgz29) | ((with_reducible refine gate_callee (f := 37) rfl ?_); refine goesL_ (some 74) rfl rfl Try.func37 (by kernel_rfl) rfl #[.string a0, .int .i64 t333, .int .i64 64] rfl (by (try simp only [List.map_toArray, List.map_cons, List.map_nil]); first | done | rfl | (simp only [List.length_drop, List.length_take]; rfl)) ?_; (with_reducible refine (bonsairef04_Take.calls k1 a0 t333 64 t335 t336 t337 _ A20.out).mono ?_); rintro e w30 ⟨rfl, hb⟩; refine ⟨_, rfl, ?_⟩; have n0_ := Aside0.mk (Kd.R_below (by (with_reducible repeat (first | apply Kd.R_alloc | apply Kd.R_drewN | apply Kd.R_drew)); exact HO_8.out) hb); have n1_ := Aside0.mk (IsS68.below (by repeat (first | (with_reducible first | exact HI310.out | apply IsS68.alloc | apply IsS68.drewN | apply IsS68.drew | apply IsS68.set_0 | apply IsS68.set_1 | apply IsS68.set_2) | exact HI310.out)) hb); have n2_ := Aside0.mk (below_step (by repeat (first | (with_reducible first | exact HB.out | apply below_alloc | apply pw_below_drewN | apply below_drew1 | refine below_set ?_ (IsS68.ge HI310.out)) | exact HB.out)) hb); clear HO_8; clear HI310; clear HB; have HO_8 := n0_; have HI310 := n1_; have HB := n2_; clear n0_ n1_ n2_; (try clear hb); (try clear hb2); (try clear hk); (try clear hi); obtain ⟨HGz31, hgz31⟩ := HI310.out; have hcz31_0 := cellS68_0 HGz31; have hcz31_1 := cellS68_1 HGz31; have hcz31_2 := cellS68_2 HGz31; have hfz31_0 := blk_frozen HGz31 0; have hfz31_1 := blk_frozen HGz31 1; have hfz31_2 := blk_frozen HGz31 2; clear HGz31 hgz31) | ((with_reducible refine gate_callee (f := 38) rfl ?_); refine goesL_ (some 86) rfl rfl Try.func38 (by kernel_rfl) rfl #[.pointer (some ⟨gb310, 0, none⟩)] rfl (by (try simp only [List.map_toArray, List.map_cons, List.map_nil]); first | done | rfl | (simp only [List.length_drop, List.length_take]; rfl)) ?_; (with_reducible refine (bonsairef03_Reader_Fix.calls k1 gb310 t332 t336 t334 t338 t339 t340 t341 w _ ?side1 ?side2 A22.out).mono ?_); (case side1 => repeat (first | (with_reducible first | exact HI310.out | apply IsS68.alloc | apply IsS68.drewN | apply IsS68.drew | apply IsS68.set_0 | apply IsS68.set_1 | apply IsS68.set_2) | exact HI310.out)); (case side2 => repeat (first | (with_reducible first | exact HB.out | apply below_alloc | apply pw_below_drewN | apply below_drew1 | refine below_set ?_ (IsS68.ge HI310.out)) | exact HB.out)); rintro e w32 ⟨rfl, hi, hb, hk⟩; refine ⟨_, rfl, ?_⟩; have n0_ := Aside0.mk (Kd.R_mono (Kd.R_keep (IsS68.apart (show IsS68 w _ gb310 t332 t336 t334 from by repeat (first | (with_reducible first | exact HI310.out | apply IsS68.alloc | apply IsS68.drewN | apply IsS68.drew | apply IsS68.set_0 | apply IsS68.set_1 | apply IsS68.set_2) | exact HI310.out)) (by (with_reducible repeat (first | apply Kd.R_alloc | apply Kd.R_drewN | apply Kd.R_drew)); exact (Kd.R_mono (Kd.R_far (p := ⟨gb310, 1, none⟩) (IsS68.apart HI310.out HO_8.out (by decide)) (fun _ hk => hk.2) (.int .i64 t336)) (fun _ h_ => h_.1))) (by decide)) hk (fun _ h => h.2)) (fun _ h => h.1)); have n1_ := Aside0.mk (hb); have n2_ := Aside0.mk (hi); clear HO_8; clear HB; clear HI310; have HO_8 := n0_; have HB := n1_; have HI310 := n2_; clear n0_ n1_ n2_; (try clear hb); (try clear hb2); (try clear hk); (try clear hi); obtain ⟨HGz33, hgz33⟩ := HI310.out; have hcz33_0 := cellS68_0 HGz33; have hcz33_1 := cellS68_1 HGz33; have hcz33_2 := cellS68_2 HGz33; have hfz33_0 := blk_frozen HGz33 0; have hfz33_1 := blk_frozen HGz33 1; have hfz33_2 := blk_frozen HGz33 2; clear HGz33 hgz33))
                      (try simp only [Act.put, List.setIfInBounds_toArray, List.set_cons_zero, List.set_cons_succ])
                      go_cut [114] (fun v114 wc => ∃ (kq : Nat) (x114_23 : Bool), v114 = .bool x114_23 ∧ Aside0 (bonsairef21_Decode.j1 kq a0 t311 x8_1 x9_1 t319 t323 t327 t331 t335 t338 x114_23 t339 t340 t341 = some (r1, r2)) ∧ Aside0 (kq ≤ k1) ∧ Aside0 (Kd.R k30 30 wc w.heap.size (fun _ => True) u8 x8_1) ∧ Aside0 (IsS68 w wc gb310 t339 t340 t341) ∧ Aside0 (Below w.heap.size w wc))
                      case first =>
                        have H := HC24.out
                        clear HC24
                        replace H := Option.bind_eq_some_iff.mp H
                        obtain ⟨t342, A340, H⟩ := H
                        replace H : (if t342 = true then (if t319 ≥ 9223372036854775808 then (bonsairef21_Decode.j1 k1 a0 t311 x8_1 x9_1 t319 t323 t327 t331 t335 t338 true t339 t340 t341) else (if t323 ≥ 9223372036854775808 then (bonsairef21_Decode.j1 k1 a0 t311 x8_1 x9_1 t319 t323 t327 t331 t335 t338 true t339 t340 t341) else (if t327 ≥ 9223372036854775808 then (bonsairef21_Decode.j1 k1 a0 t311 x8_1 x9_1 t319 t323 t327 t331 t335 t338 true t339 t340 t341) else (bonsairef21_Decode.j1 k1 a0 t311 x8_1 x9_1 t319 t323 t327 t331 t335 t338 (decide (t331 ≥ 9223372036854775808)) t339 t340 t341)))) else (bonsairef21_Decode.j1 k1 a0 t311 x8_1 x9_1 t319 t323 t327 t331 t335 t338 true t339 t340 t341)) = some (r1, r2) := H
                        have A34 := Aside0.mk A340
                        clear A340
                        by_cases c35 : t342 = true
                        · subst c35
                          have H1 : (if t319 ≥ 9223372036854775808 then (bonsairef21_Decode.j1 k1 a0 t311 x8_1 x9_1 t319 t323 t327 t331 t335 t338 true t339 t340 t341) else (if t323 ≥ 9223372036854775808 then (bonsairef21_Decode.j1 k1 a0 t311 x8_1 x9_1 t319 t323 t327 t331 t335 t338 true t339 t340 t341) else (if t327 ≥ 9223372036854775808 then (bonsairef21_Decode.j1 k1 a0 t311 x8_1 x9_1 t319 t323 t327 t331 t335 t338 true t339 t340 t341) else (bonsairef21_Decode.j1 k1 a0 t311 x8_1 x9_1 t319 t323 t327 t331 t335 t338 (decide (t331 ≥ 9223372036854775808)) t339 t340 t341)))) = some (r1, r2) := by rw [if_pos rfl] at H; exact H
                          clear H
                          have H := H1
                          clear H1
                          by_cases c36 : t319 ≥ 9223372036854775808
                          · rw [if_pos c36] at H
                            have c36b0 : decide (9223372036854775808 ≤ t319) = true := decide_eq_true c36
                            clear c36
                            (first | rw [c36b0] | (simp only [i64_w, i32_w]; rw [c36b0]) | skip)
                            have H' := Aside0.mk H
                            clear H
                            go_wp2_with (first | ((with_reducible refine gate_callee (f := 39) rfl ?_); refine goesL_ (some 97) rfl rfl Try.func39 (by kernel_rfl) rfl #[.int .u64 t338] rfl (by (try simp only [List.map_toArray, List.map_cons, List.map_nil]); first | done | rfl | (simp only [List.length_drop, List.length_take]; rfl)) ?_; (with_reducible refine (bonsairef01_Canon.calls t338 true _ A34.out).mono ?_); rintro e w' ⟨rfl, ⟨nd, rfl⟩⟩; refine ⟨_, rfl, ?_⟩))
                            go_meet
                            case rel => exact ⟨_, (true), (by first | rfl | (simp; done) | (simp [*]; done)), H', ⟨by have := HK1.out; first | omega | exact Nat.le_refl _⟩, ⟨by (with_reducible repeat (first | apply Kd.R_alloc | apply Kd.R_drewN | apply Kd.R_drew)); exact HO_8.out⟩, ⟨by repeat (first | (with_reducible first | exact HI310.out | apply IsS68.alloc | apply IsS68.drewN | apply IsS68.drew | apply IsS68.set_0 | apply IsS68.set_1 | apply IsS68.set_2) | exact HI310.out)⟩, ⟨by repeat (first | (with_reducible first | exact HB.out | apply below_alloc | apply pw_below_drewN | apply below_drew1 | refine below_set ?_ (IsS68.ge HI310.out)) | exact HB.out)⟩⟩
                          · rw [if_neg c36] at H
                            have c36b0 : decide (9223372036854775808 ≤ t319) = false := decide_eq_false c36
                            clear c36
                            (first | rw [c36b0] | (simp only [i64_w, i32_w]; rw [c36b0]) | skip)
                            by_cases c37 : t323 ≥ 9223372036854775808
                            · rw [if_pos c37] at H
                              have c37b0 : decide (9223372036854775808 ≤ t323) = true := decide_eq_true c37
                              clear c37
                              have H' := Aside0.mk H
                              clear H
                              go_wp2_with (first | ((with_reducible refine gate_callee (f := 39) rfl ?_); refine goesL_ (some 97) rfl rfl Try.func39 (by kernel_rfl) rfl #[.int .u64 t338] rfl (by (try simp only [List.map_toArray, List.map_cons, List.map_nil]); first | done | rfl | (simp only [List.length_drop, List.length_take]; rfl)) ?_; (with_reducible refine (bonsairef01_Canon.calls t338 true _ A34.out).mono ?_); rintro e w' ⟨rfl, ⟨nd, rfl⟩⟩; refine ⟨_, rfl, ?_⟩))
                              go_meet
                              case rel => exact ⟨_, (true), (by first | rfl | (simp; done) | (simp [*]; done)), H', ⟨by have := HK1.out; first | omega | exact Nat.le_refl _⟩, ⟨by (with_reducible repeat (first | apply Kd.R_alloc | apply Kd.R_drewN | apply Kd.R_drew)); exact HO_8.out⟩, ⟨by repeat (first | (with_reducible first | exact HI310.out | apply IsS68.alloc | apply IsS68.drewN | apply IsS68.drew | apply IsS68.set_0 | apply IsS68.set_1 | apply IsS68.set_2) | exact HI310.out)⟩, ⟨by repeat (first | (with_reducible first | exact HB.out | apply below_alloc | apply pw_below_drewN | apply below_drew1 | refine below_set ?_ (IsS68.ge HI310.out)) | exact HB.out)⟩⟩
                            · rw [if_neg c37] at H
                              have c37b0 : decide (9223372036854775808 ≤ t323) = false := decide_eq_false c37
                              clear c37
                              by_cases c38 : t327 ≥ 9223372036854775808
                              · rw [if_pos c38] at H
                                have c38b0 : decide (9223372036854775808 ≤ t327) = true := decide_eq_true c38
                                clear c38
                                have H' := Aside0.mk H
                                clear H
                                go_wp2_with (first | ((with_reducible refine gate_callee (f := 39) rfl ?_); refine goesL_ (some 97) rfl rfl Try.func39 (by kernel_rfl) rfl #[.int .u64 t338] rfl (by (try simp only [List.map_toArray, List.map_cons, List.map_nil]); first | done | rfl | (simp only [List.length_drop, List.length_take]; rfl)) ?_; (with_reducible refine (bonsairef01_Canon.calls t338 true _ A34.out).mono ?_); rintro e w' ⟨rfl, ⟨nd, rfl⟩⟩; refine ⟨_, rfl, ?_⟩))
                                go_meet
                                case rel => exact ⟨_, (true), (by first | rfl | (simp; done) | (simp [*]; done)), H', ⟨by have := HK1.out; first | omega | exact Nat.le_refl _⟩, ⟨by (with_reducible repeat (first | apply Kd.R_alloc | apply Kd.R_drewN | apply Kd.R_drew)); exact HO_8.out⟩, ⟨by repeat (first | (with_reducible first | exact HI310.out | apply IsS68.alloc | apply IsS68.drewN | apply IsS68.drew | apply IsS68.set_0 | apply IsS68.set_1 | apply IsS68.set_2) | exact HI310.out)⟩, ⟨by repeat (first | (with_reducible first | exact HB.out | apply below_alloc | apply pw_below_drewN | apply below_drew1 | refine below_set ?_ (IsS68.ge HI310.out)) | exact HB.out)⟩⟩
                              · rw [if_neg c38] at H
                                have c38b0 : decide (9223372036854775808 ≤ t327) = false := decide_eq_false c38
                                clear c38
                                have H' := Aside0.mk H
                                clear H
                                go_wp2_with (first | ((with_reducible refine gate_callee (f := 39) rfl ?_); refine goesL_ (some 97) rfl rfl Try.func39 (by kernel_rfl) rfl #[.int .u64 t338] rfl (by (try simp only [List.map_toArray, List.map_cons, List.map_nil]); first | done | rfl | (simp only [List.length_drop, List.length_take]; rfl)) ?_; (with_reducible refine (bonsairef01_Canon.calls t338 true _ A34.out).mono ?_); rintro e w' ⟨rfl, ⟨nd, rfl⟩⟩; refine ⟨_, rfl, ?_⟩))
                                go_meet
                                case rel => exact ⟨_, (decide (t331 ≥ 9223372036854775808)), (by first | rfl | (simp; done) | (simp [*]; done)), H', ⟨by have := HK1.out; first | omega | exact Nat.le_refl _⟩, ⟨by (with_reducible repeat (first | apply Kd.R_alloc | apply Kd.R_drewN | apply Kd.R_drew)); exact HO_8.out⟩, ⟨by repeat (first | (with_reducible first | exact HI310.out | apply IsS68.alloc | apply IsS68.drewN | apply IsS68.drew | apply IsS68.set_0 | apply IsS68.set_1 | apply IsS68.set_2) | exact HI310.out)⟩, ⟨by repeat (first | (with_reducible first | exact HB.out | apply below_alloc | apply pw_below_drewN | apply below_drew1 | refine below_set ?_ (IsS68.ge HI310.out)) | exact HB.out)⟩⟩
                        · replace c35 := Bool.eq_false_iff.mpr c35
                          subst c35
                          have H1 : (bonsairef21_Decode.j1 k1 a0 t311 x8_1 x9_1 t319 t323 t327 t331 t335 t338 true t339 t340 t341) = some (r1, r2) := by rw [if_neg (show ¬ (false = true) by decide)] at H; exact H
                          clear H
                          have H := H1
                          clear H1
                          have H' := Aside0.mk H
                          clear H
                          go_wp2_with (first | ((with_reducible refine gate_callee (f := 39) rfl ?_); refine goesL_ (some 97) rfl rfl Try.func39 (by kernel_rfl) rfl #[.int .u64 t338] rfl (by (try simp only [List.map_toArray, List.map_cons, List.map_nil]); first | done | rfl | (simp only [List.length_drop, List.length_take]; rfl)) ?_; (with_reducible refine (bonsairef01_Canon.calls t338 false _ A34.out).mono ?_); rintro e w' ⟨rfl, ⟨nd, rfl⟩⟩; refine ⟨_, rfl, ?_⟩))
                          go_meet
                          case rel => exact ⟨_, (true), (by first | rfl | (simp; done) | (simp [*]; done)), H', ⟨by have := HK1.out; first | omega | exact Nat.le_refl _⟩, ⟨by (with_reducible repeat (first | apply Kd.R_alloc | apply Kd.R_drewN | apply Kd.R_drew)); exact HO_8.out⟩, ⟨by repeat (first | (with_reducible first | exact HI310.out | apply IsS68.alloc | apply IsS68.drewN | apply IsS68.drew | apply IsS68.set_0 | apply IsS68.set_1 | apply IsS68.set_2) | exact HI310.out)⟩, ⟨by repeat (first | (with_reducible first | exact HB.out | apply below_alloc | apply pw_below_drewN | apply below_drew1 | refine below_set ?_ (IsS68.ge HI310.out)) | exact HB.out)⟩⟩
                      case rest =>
                        clear HC24
                        try clear c1
                        try clear c2
                        try clear p2
                        try clear c3
                        try clear c3b0
                        try clear c3b1
                        try clear c4
                        try clear c4b0
                        try clear c4b1
                        try clear c6
                        try clear c6b0
                        try clear c6b1
                        try clear p6
                        try clear c7
                        try clear c7b0
                        try clear c14
                        try clear c14b0
                        try clear c19
                        try clear c19b0
                        try clear c19b1
                        try clear c21
                        try clear c21b0
                        try clear c21b1
                        try clear c23
                        try clear c23b0
                        try clear c23b1
                        try clear c35
                        try clear c36
                        try clear c36b0
                        try clear c37
                        try clear c37b0
                        try clear c38
                        try clear c38b0
                        try clear hcz10_0
                        try clear hcz10_1
                        try clear hcz10_2
                        try clear hcz13_0
                        try clear hcz13_1
                        try clear hcz13_2
                        try clear hcz29_0
                        try clear hcz29_1
                        try clear hcz29_2
                        try clear hcz31_0
                        try clear hcz31_1
                        try clear hcz31_2
                        try clear hcz33_0
                        try clear hcz33_1
                        try clear hcz33_2
                        try clear hfz10_0
                        try clear hfz10_1
                        try clear hfz10_2
                        try clear hfz13_0
                        try clear hfz13_1
                        try clear hfz13_2
                        try clear hfz29_0
                        try clear hfz29_1
                        try clear hfz29_2
                        try clear hfz31_0
                        try clear hfz31_1
                        try clear hfz31_2
                        try clear hfz33_0
                        try clear hfz33_1
                        try clear hfz33_2
                        try clear p2
                        obtain ⟨kq, x114_23, rfl, HA, HJ23, HO_8, HI310, HB⟩ := hcut
                        cases kq with
                        | zero => exact absurd HA.out (by simp [bonsairef21_Decode.j1])
                        | succ kj23 =>
                          have H := HA.out
                          clear HA
                          simp only [bonsairef21_Decode.j1] at H
                          by_cases c39 : x114_23 = true
                          · subst c39
                            have H1 : (some (([] : List (S30)), 5)) = some (r1, r2) := by rw [if_pos rfl] at H; exact H
                            clear H
                            have H := H1
                            clear H1
                            simp only [Option.some.injEq, Prod.mk.injEq] at H
                            obtain ⟨rfl, rfl⟩ := H
                            go_wp2
                            go_ret2
                            exact ⟨_, by first | rfl | (simp [errW_none, errW_some] <;> rfl) | (simp [*, errW_none, errW_some] <;> rfl), by first | exact Kd.R_nil _ _ _ _ _ | exact Kd.N_nil _ _ _ _ _ | exact Kd.V_nil _ _ _ _ _ | exact Kd.Q_nil _ _ _ _ _ | exact Kd.S_nil _ _ _ _ _, by repeat (first | (with_reducible first | exact HB.out | apply below_alloc | apply pw_below_drewN | apply below_drew1 | refine below_set ?_ (IsS68.ge HI310.out)) | exact HB.out)⟩
                          · replace c39 := Bool.eq_false_iff.mpr c39
                            subst c39
                            have H1 : ((bonsairef01_Float.f t338).bind fun t343 => ((bonsairef13_One.f kj23 (wrap64 (t319)) (wrap64 (t323)) (wrap64 (t327)) (wrap64 (t331)) t335 t343).bind fun t346 => (if t346 = true then (if x9_1 > 0 then (if 0 ≤ (wrap64 (x9_1 - 1)) then (if (wrap64 (x9_1 - 1)) < (x8_1.length : Int) then ((bonsairef02_Before.f ((rd_T30 x8_1 (wrap64 (x9_1 - 1))).f0.f0) ((rd_T30 x8_1 (wrap64 (x9_1 - 1))).f0.f1) (wrap64 (t319)) (wrap64 (t323))).bind fun t348 => (if t348 = true then (if x8_1.length < 2513169434916 then (bonsairef21_Decode.l0 kj23 a0 t311 (x8_1 ++ [(⟨(⟨wrap64 (t319), wrap64 (t323)⟩ : S27), wrap64 (t327), wrap64 (t331), t335, t343⟩ : S30)]) (wrap64 (x9_1 + 1)) t339 t340 t341) else (none)) else (some (([] : List (S30)), 12)))) else (none)) else (none)) else (if x8_1.length < 2513169434916 then (bonsairef21_Decode.l0 kj23 a0 t311 (x8_1 ++ [(⟨(⟨wrap64 (t319), wrap64 (t323)⟩ : S27), wrap64 (t327), wrap64 (t331), t335, t343⟩ : S30)]) (wrap64 (x9_1 + 1)) t339 t340 t341) else (none))) else (some (([] : List (S30)), 5))))) = some (r1, r2) := by rw [if_neg (show ¬ (false = true) by decide)] at H; exact H
                            clear H
                            have H := H1
                            clear H1
                            replace H := Option.bind_eq_some_iff.mp H
                            obtain ⟨t343, A400, H⟩ := H
                            replace H : ((bonsairef13_One.f kj23 (wrap64 (t319)) (wrap64 (t323)) (wrap64 (t327)) (wrap64 (t331)) t335 t343).bind fun t346 => (if t346 = true then (if x9_1 > 0 then (if 0 ≤ (wrap64 (x9_1 - 1)) then (if (wrap64 (x9_1 - 1)) < (x8_1.length : Int) then ((bonsairef02_Before.f ((rd_T30 x8_1 (wrap64 (x9_1 - 1))).f0.f0) ((rd_T30 x8_1 (wrap64 (x9_1 - 1))).f0.f1) (wrap64 (t319)) (wrap64 (t323))).bind fun t348 => (if t348 = true then (if x8_1.length < 2513169434916 then (bonsairef21_Decode.l0 kj23 a0 t311 (x8_1 ++ [(⟨(⟨wrap64 (t319), wrap64 (t323)⟩ : S27), wrap64 (t327), wrap64 (t331), t335, t343⟩ : S30)]) (wrap64 (x9_1 + 1)) t339 t340 t341) else (none)) else (some (([] : List (S30)), 12)))) else (none)) else (none)) else (if x8_1.length < 2513169434916 then (bonsairef21_Decode.l0 kj23 a0 t311 (x8_1 ++ [(⟨(⟨wrap64 (t319), wrap64 (t323)⟩ : S27), wrap64 (t327), wrap64 (t331), t335, t343⟩ : S30)]) (wrap64 (x9_1 + 1)) t339 t340 t341) else (none))) else (some (([] : List (S30)), 5)))) = some (r1, r2) := H
                            have A40 := Aside0.mk A400
                            clear A400
                            replace H := Option.bind_eq_some_iff.mp H
                            obtain ⟨t346, A410, H⟩ := H
                            replace H : (if t346 = true then (if x9_1 > 0 then (if 0 ≤ (wrap64 (x9_1 - 1)) then (if (wrap64 (x9_1 - 1)) < (x8_1.length : Int) then ((bonsairef02_Before.f ((rd_T30 x8_1 (wrap64 (x9_1 - 1))).f0.f0) ((rd_T30 x8_1 (wrap64 (x9_1 - 1))).f0.f1) (wrap64 (t319)) (wrap64 (t323))).bind fun t348 => (if t348 = true then (if x8_1.length < 2513169434916 then (bonsairef21_Decode.l0 kj23 a0 t311 (x8_1 ++ [(⟨(⟨wrap64 (t319), wrap64 (t323)⟩ : S27), wrap64 (t327), wrap64 (t331), t335, t343⟩ : S30)]) (wrap64 (x9_1 + 1)) t339 t340 t341) else (none)) else (some (([] : List (S30)), 12)))) else (none)) else (none)) else (if x8_1.length < 2513169434916 then (bonsairef21_Decode.l0 kj23 a0 t311 (x8_1 ++ [(⟨(⟨wrap64 (t319), wrap64 (t323)⟩ : S27), wrap64 (t327), wrap64 (t331), t335, t343⟩ : S30)]) (wrap64 (x9_1 + 1)) t339 t340 t341) else (none))) else (some (([] : List (S30)), 5))) = some (r1, r2) := H
                            have A41 := Aside0.mk A410
                            clear A410
                            by_cases c42 : t346 = true
                            · subst c42
                              have H1 : (if x9_1 > 0 then (if 0 ≤ (wrap64 (x9_1 - 1)) then (if (wrap64 (x9_1 - 1)) < (x8_1.length : Int) then ((bonsairef02_Before.f ((rd_T30 x8_1 (wrap64 (x9_1 - 1))).f0.f0) ((rd_T30 x8_1 (wrap64 (x9_1 - 1))).f0.f1) (wrap64 (t319)) (wrap64 (t323))).bind fun t348 => (if t348 = true then (if x8_1.length < 2513169434916 then (bonsairef21_Decode.l0 kj23 a0 t311 (x8_1 ++ [(⟨(⟨wrap64 (t319), wrap64 (t323)⟩ : S27), wrap64 (t327), wrap64 (t331), t335, t343⟩ : S30)]) (wrap64 (x9_1 + 1)) t339 t340 t341) else (none)) else (some (([] : List (S30)), 12)))) else (none)) else (none)) else (if x8_1.length < 2513169434916 then (bonsairef21_Decode.l0 kj23 a0 t311 (x8_1 ++ [(⟨(⟨wrap64 (t319), wrap64 (t323)⟩ : S27), wrap64 (t327), wrap64 (t331), t335, t343⟩ : S30)]) (wrap64 (x9_1 + 1)) t339 t340 t341) else (none))) = some (r1, r2) := by rw [if_pos rfl] at H; exact H
                              clear H
                              have H := H1
                              clear H1
                              by_cases c43 : x9_1 > 0
                              · rw [if_pos c43] at H
                                have c43b0 : decide (0 < x9_1) = true := decide_eq_true c43
                                clear c43
                                obtain ⟨ji44, hji44⟩ : ∃ j_ : Int, (wrap64 (x9_1 - 1)) = j_ := ⟨_, rfl⟩
                                replace H : (if 0 ≤ (ji44) then (if (ji44) < (x8_1.length : Int) then ((bonsairef02_Before.f ((rd_T30 x8_1 (ji44)).f0.f0) ((rd_T30 x8_1 (ji44)).f0.f1) (wrap64 (t319)) (wrap64 (t323))).bind fun t348 => (if t348 = true then (if x8_1.length < 2513169434916 then (bonsairef21_Decode.l0 kj23 a0 t311 (x8_1 ++ [(⟨(⟨wrap64 (t319), wrap64 (t323)⟩ : S27), wrap64 (t327), wrap64 (t331), t335, t343⟩ : S30)]) (wrap64 (x9_1 + 1)) t339 t340 t341) else (none)) else (some (([] : List (S30)), 12)))) else (none)) else (none)) = some (r1, r2) := by first | (rw [hji44] at H; exact H) | (simp only [hji44] at H ⊢; exact H)
                                (try rw [hji44] at A40)
                                (try rw [hji44] at A41)
                                have hji44w : (IntKind.i64.wrap (x9_1 - 1)) = ji44 := (i64_w _).trans hji44
                                by_cases c45 : 0 ≤ (ji44)
                                · rw [if_pos c45] at H
                                  have c45b0 : decide (0 ≤ (ji44)) = true := decide_eq_true c45
                                  clear c45
                                  by_cases c46 : (ji44) < (x8_1.length : Int)
                                  · rw [if_pos c46] at H
                                    have c46b0 : decide ((ji44) < (x8_1.length : Int)) = true := decide_eq_true c46
                                    clear c46
                                    replace H := Option.bind_eq_some_iff.mp H
                                    obtain ⟨t348, A470, H⟩ := H
                                    replace H : (if t348 = true then (if x8_1.length < 2513169434916 then (bonsairef21_Decode.l0 kj23 a0 t311 (x8_1 ++ [(⟨(⟨wrap64 (t319), wrap64 (t323)⟩ : S27), wrap64 (t327), wrap64 (t331), t335, t343⟩ : S30)]) (wrap64 (x9_1 + 1)) t339 t340 t341) else (none)) else (some (([] : List (S30)), 12))) = some (r1, r2) := H
                                    have A47 := Aside0.mk A470
                                    clear A470
                                    by_cases c48 : t348 = true
                                    · subst c48
                                      have H1 : (if x8_1.length < 2513169434916 then (bonsairef21_Decode.l0 kj23 a0 t311 (x8_1 ++ [(⟨(⟨wrap64 (t319), wrap64 (t323)⟩ : S27), wrap64 (t327), wrap64 (t331), t335, t343⟩ : S30)]) (wrap64 (x9_1 + 1)) t339 t340 t341) else (none)) = some (r1, r2) := by rw [if_pos rfl] at H; exact H
                                      clear H
                                      have H := H1
                                      clear H1
                                      by_cases c49 : x8_1.length < 2513169434916
                                      · rw [if_pos c49] at H
                                        have LMc49 := Aside0.mk c49
                                        clear c49
                                        obtain ⟨y349, hy349⟩ : ∃ y_ : List (S30), y_ = (x8_1 ++ [(⟨(⟨wrap64 (t319), wrap64 (t323)⟩ : S27), wrap64 (t327), wrap64 (t331), t335, t343⟩ : S30)]) := ⟨_, rfl⟩
                                        replace H : (bonsairef21_Decode.l0 kj23 a0 t311 y349 (wrap64 (x9_1 + 1)) t339 t340 t341) = some (r1, r2) := by first | (rw [hy349]; with_reducible exact H) | (have H2_ := (Option.bind_some _ _).symm.trans H; rw [hy349]; with_reducible exact H2_) | (have H2_ := (Option.bind_some _ _).symm.trans H; with_reducible exact H2_) | with_reducible exact H | (rw [hy349]; exact H) | exact H
                                        have Ny349 := Aside0.mk hy349
                                        clear hy349
                                        have H' := Aside0.mk H
                                        clear H
                                        try go_wp2_with (first | ((with_reducible refine gate_callee (f := 40) rfl ?_); refine goesL_ (some 126) rfl rfl Try.func40 (by kernel_rfl) rfl #[.int .u64 t338] rfl (by (try simp only [List.map_toArray, List.map_cons, List.map_nil]); first | done | rfl | (simp only [List.length_drop, List.length_take]; rfl)) ?_; (with_reducible refine (bonsairef01_Float.calls t338 t343 _ A40.out).mono ?_); rintro e w50 ⟨bv344, rfl, bq344, hb⟩; refine ⟨_, rfl, ?_⟩; have n0_ := Aside0.mk (Kd.R_below (by (with_reducible repeat (first | apply Kd.R_alloc | apply Kd.R_drewN | apply Kd.R_drew)); exact HO_8.out) hb); have n1_ := Aside0.mk (IsS68.below (by repeat (first | (with_reducible first | exact HI310.out | apply IsS68.alloc | apply IsS68.drewN | apply IsS68.drew | apply IsS68.set_0 | apply IsS68.set_1 | apply IsS68.set_2) | exact HI310.out)) hb); have n2_ := Aside0.mk (below_step (by repeat (first | (with_reducible first | exact HB.out | apply below_alloc | apply pw_below_drewN | apply below_drew1 | refine below_set ?_ (IsS68.ge HI310.out)) | exact HB.out)) hb); clear HO_8; clear HI310; clear HB; have HO_8 := n0_; have HI310 := n1_; have HB := n2_; clear n0_ n1_ n2_; (try clear hb); (try clear hb2); (try clear hk); (try clear hi)) | ((with_reducible refine gate_dst (N := 18) rfl ?_); refine box_event ?hg (N := 18) ?hd (cs := #[.int .i64 0, .int .i64 0, .int .i64 0, .int .i64 0, .string (⟨#[]⟩ : ByteArray), .float .f64 0]) (t := 30) ?hr ?_; (case hd => rfl); (case hg => rfl); (case hr => first | (go_simp; done) | (go_simp; rfl)); intro gb345 hg w51 hbox hb; have n0_ := Aside0.mk (Kd.R_below (Kd.R_elderB (by (with_reducible repeat (first | apply Kd.R_alloc | apply Kd.R_drewN | apply Kd.R_drew)); exact HO_8.out) gb345 (Nat.le_of_eq hg.symm)) hb); have n1_ := Aside0.mk (IsS68.below (by repeat (first | (with_reducible first | exact HI310.out | apply IsS68.alloc | apply IsS68.drewN | apply IsS68.drew | apply IsS68.set_0 | apply IsS68.set_1 | apply IsS68.set_2) | exact HI310.out)) hb); have n2_ := Aside0.mk (below_step (by repeat (first | (with_reducible first | exact HB.out | apply below_alloc | apply pw_below_drewN | apply below_drew1 | refine below_set ?_ (IsS68.ge HI310.out)) | exact HB.out)) hb); have n3_ := Aside0.mk (hbox); have n4_ := Aside0.mk ((by rw [hg]; exact (below_size (by repeat (first | (with_reducible first | exact HB.out | apply below_alloc | apply pw_below_drewN | apply below_drew1 | refine below_set ?_ (IsS68.ge HI310.out)) | exact HB.out))) : w.heap.size ≤ gb345)); have n5_ := Aside0.mk ((by rw [hg]; exact (below_size (by repeat (first | (with_reducible first | exact HB.out | apply below_alloc | apply pw_below_drewN | apply below_drew1 | refine below_set ?_ (IsS68.ge HI310.out)) | exact HB.out))) : w.heap.size ≤ gb345)); have n6_ := Aside0.mk ((by rw [hg]; exact Nat.ne_of_lt (IsS68.lt (show IsS68 w _ gb310 t339 t340 t341 from by repeat (first | (with_reducible first | exact HI310.out | apply IsS68.alloc | apply IsS68.drewN | apply IsS68.drew | apply IsS68.set_0 | apply IsS68.set_1 | apply IsS68.set_2) | exact HI310.out))) : gb310 ≠ gb345)); have n7_ := Aside0.mk ((by rw [hg]; exact Nat.ne_of_gt (IsS68.lt (show IsS68 w _ gb310 t339 t340 t341 from by repeat (first | (with_reducible first | exact HI310.out | apply IsS68.alloc | apply IsS68.drewN | apply IsS68.drew | apply IsS68.set_0 | apply IsS68.set_1 | apply IsS68.set_2) | exact HI310.out))) : gb345 ≠ gb310)); clear HO_8; clear HI310; clear HB; have HO_8 := n0_; have HI310 := n1_; have HB := n2_; have BK345 := n3_; have GW345 := n4_; have GE345 := n5_; have NB310_345 := n6_; have NB345_310 := n7_; clear n0_ n1_ n2_ n3_ n4_ n5_ n6_ n7_; clear hb hbox hg; have hnb52 := NB345_310.out; have hnc52 := NB310_345.out; have hcz53_0 : w51.cell? ⟨gb345, 0, none⟩ = some (.int .i64 0) := (blk_cell BK345.out 0).trans rfl; have hcz53_1 : w51.cell? ⟨gb345, 1, none⟩ = some (.int .i64 0) := (blk_cell BK345.out 1).trans rfl; have hcz53_2 : w51.cell? ⟨gb345, 2, none⟩ = some (.int .i64 0) := (blk_cell BK345.out 2).trans rfl; have hcz53_3 : w51.cell? ⟨gb345, 3, none⟩ = some (.int .i64 0) := (blk_cell BK345.out 3).trans rfl; have hcz53_4 : w51.cell? ⟨gb345, 4, none⟩ = some (.string (⟨#[]⟩ : ByteArray)) := (blk_cell BK345.out 4).trans rfl; have hcz53_5 : w51.cell? ⟨gb345, 5, none⟩ = some (.float .f64 0) := (blk_cell BK345.out 5).trans rfl; have hfz53_0 := blk_frozen BK345.out 0; have hfz53_1 := blk_frozen BK345.out 1; have hfz53_2 := blk_frozen BK345.out 2; have hfz53_3 := blk_frozen BK345.out 3; have hfz53_4 := blk_frozen BK345.out 4; have hfz53_5 := blk_frozen BK345.out 5) | ((with_reducible refine gate_callee (f := 41) rfl ?_); refine goesL_ (some 129) rfl rfl Try.func41 (by kernel_rfl) rfl #[.agg #[.int .i64 (wrap64 (t319)), .int .i64 (wrap64 (t323)), .int .i64 (wrap64 (t327)), .int .i64 (wrap64 (t331)), .string t335, .float .f64 bv344]] rfl (by (try simp only [List.map_toArray, List.map_cons, List.map_nil]); first | done | rfl | (simp only [List.length_drop, List.length_take]; rfl)) ?_; (with_reducible refine (bonsairef13_One.calls kj23 (wrap64 (t319)) (wrap64 (t323)) (wrap64 (t327)) (wrap64 (t331)) t335 _ t343 true _ ?side1 A41.out).mono ?_); (case side1 => exact (by first | assumption | exact FB_lit _ _ rfl | exact FB_int _ | simpa using (by assumption))); rintro e w54 ⟨rfl, hb⟩; refine ⟨_, rfl, ?_⟩; have n0_ := Aside0.mk (Kd.R_below (by (with_reducible repeat (first | apply Kd.R_alloc | apply Kd.R_drewN | apply Kd.R_drew)); exact (Kd.R_mono (Kd.R_far (p := ⟨gb345, 5, none⟩) (Kd.R_far (p := ⟨gb345, 4, none⟩) (Kd.R_far (p := ⟨gb345, 3, none⟩) (Kd.R_far (p := ⟨gb345, 2, none⟩) (Kd.R_far (p := ⟨gb345, 1, none⟩) (Kd.R_far (p := ⟨gb345, 0, none⟩) (Kd.R_mono HO_8.out (fun k_ hk => (⟨hk, hk.2⟩ : _ ∧ k_ ≠ gb345))) (fun _ hk => hk.2) (.int .i64 (wrap64 (t319)))) (fun _ hk => hk.2) (.int .i64 (wrap64 (t323)))) (fun _ hk => hk.2) (.int .i64 (wrap64 (t327)))) (fun _ hk => hk.2) (.int .i64 (wrap64 (t331)))) (fun _ hk => hk.2) (.string t335)) (fun _ hk => hk.2) (.float .f64 bv344)) (fun _ h_ => h_.1))) hb); have n1_ := Aside0.mk (IsS68.below (show IsS68 w ((((((w51.setCell ⟨gb345, 0, none⟩ (.int .i64 (wrap64 (t319)))).setCell ⟨gb345, 1, none⟩ (.int .i64 (wrap64 (t323)))).setCell ⟨gb345, 2, none⟩ (.int .i64 (wrap64 (t327)))).setCell ⟨gb345, 3, none⟩ (.int .i64 (wrap64 (t331)))).setCell ⟨gb345, 4, none⟩ (.string t335)).setCell ⟨gb345, 5, none⟩ (.float .f64 bv344)) gb310 t339 t340 t341 from by repeat (first | (with_reducible first | exact HI310.out | apply IsS68.alloc | apply IsS68.drewN | apply IsS68.drew | apply IsS68.set_0 | apply IsS68.set_1 | apply IsS68.set_2 | refine IsS68.far ?_ NB310_345.out _) | exact HI310.out)) hb); have n2_ := Aside0.mk (blk_below (g := gb345) (o := .cells #[.int .i64 (wrap64 (t319)), .int .i64 (wrap64 (t323)), .int .i64 (wrap64 (t327)), .int .i64 (wrap64 (t331)), .string t335, .float .f64 bv344] 30 (0, 0)) (by (with_reducible repeat (first | refine blk_drewN ?_ _ | refine blk_drew ?_ | refine blk_alloc ?_ _)); refine blk_put (cs := #[.int .i64 (wrap64 (t319)), .int .i64 (wrap64 (t323)), .int .i64 (wrap64 (t327)), .int .i64 (wrap64 (t331)), .string t335, .float .f64 0]) ?_ 5 _ rfl; (with_reducible repeat (first | refine blk_drewN ?_ _ | refine blk_drew ?_ | refine blk_alloc ?_ _)); refine blk_put (cs := #[.int .i64 (wrap64 (t319)), .int .i64 (wrap64 (t323)), .int .i64 (wrap64 (t327)), .int .i64 (wrap64 (t331)), .string (⟨#[]⟩ : ByteArray), .float .f64 0]) ?_ 4 _ rfl; (with_reducible repeat (first | refine blk_drewN ?_ _ | refine blk_drew ?_ | refine blk_alloc ?_ _)); refine blk_put (cs := #[.int .i64 (wrap64 (t319)), .int .i64 (wrap64 (t323)), .int .i64 (wrap64 (t327)), .int .i64 0, .string (⟨#[]⟩ : ByteArray), .float .f64 0]) ?_ 3 _ rfl; (with_reducible repeat (first | refine blk_drewN ?_ _ | refine blk_drew ?_ | refine blk_alloc ?_ _)); refine blk_put (cs := #[.int .i64 (wrap64 (t319)), .int .i64 (wrap64 (t323)), .int .i64 0, .int .i64 0, .string (⟨#[]⟩ : ByteArray), .float .f64 0]) ?_ 2 _ rfl; (with_reducible repeat (first | refine blk_drewN ?_ _ | refine blk_drew ?_ | refine blk_alloc ?_ _)); refine blk_put (cs := #[.int .i64 (wrap64 (t319)), .int .i64 0, .int .i64 0, .int .i64 0, .string (⟨#[]⟩ : ByteArray), .float .f64 0]) ?_ 1 _ rfl; (with_reducible repeat (first | refine blk_drewN ?_ _ | refine blk_drew ?_ | refine blk_alloc ?_ _)); refine blk_put (cs := #[.int .i64 0, .int .i64 0, .int .i64 0, .int .i64 0, .string (⟨#[]⟩ : ByteArray), .float .f64 0]) ?_ 0 _ rfl; (with_reducible repeat (first | refine blk_drewN ?_ _ | refine blk_drew ?_ | refine blk_alloc ?_ _)); exact BK345.out) hb); have n3_ := Aside0.mk (below_step (by repeat (first | (with_reducible first | exact HB.out | apply below_alloc | apply pw_below_drewN | apply below_drew1 | refine below_set ?_ (IsS68.ge HI310.out) | refine below_set ?_ GE345.out) | exact HB.out)) hb); clear HO_8; clear HI310; clear BK345; clear HB; have HO_8 := n0_; have HI310 := n1_; have BK345 := n2_; have HB := n3_; clear n0_ n1_ n2_ n3_; (try clear hb); (try clear hb2); (try clear hk); (try clear hi)))
                                        have n0_ := Aside0.mk (Kd.R_drew HO_8.out)
                                        have n1_ := Aside0.mk (blk_drew BK345.out)
                                        have n2_ := Aside0.mk (IsS68.drew HI310.out)
                                        have n3_ := Aside0.mk (below_drew1 HB.out)
                                        clear HO_8
                                        clear BK345
                                        clear HI310
                                        clear HB
                                        have HO_8 := n0_
                                        have BK345 := n1_
                                        have HI310 := n2_
                                        have HB := n3_
                                        clear n0_ n1_ n2_ n3_
                                        obtain ⟨Ao56, co56, eo56⟩ := Kd.R_slice HO_8.out
                                        (first | subst eo56 | (injection eo56 with f1_ f2_ f3_; have f4_ := f1_.symm; have f5_ := f3_.symm; clear f1_ f2_ f3_; subst f4_; subst f5_))
                                        have p347 : 0 ≤ ((ji44) : Int) := of_decide_eq_true (by first | (with_reducible assumption) | assumption)
                                        have q347 : (ji44) < (x8_1.length : Int) := of_decide_eq_true (by first | (with_reducible assumption) | assumption)
                                        obtain ⟨ad347, bv347_5, e347, hx347_0, hx347_1, hx347_2, hx347_3, hx347_4, hx347_5, bq347_5⟩ := at_T30 (Kd.R_reads' HO_8.out).2.2 (ji44) p347 q347
                                        cases e347
                                        replace p347 := eq_true p347
                                        replace q347 := eq_true q347
                                        refine start_ (n := 14) (S := fun w' => w'.cell? ⟨gb345, 0, none⟩ = some (.int .i64 (wrap64 (t319))) ∧ w'.cell? ⟨gb345, 1, none⟩ = some (.int .i64 (wrap64 (t323))) ∧ w'.cell? ⟨gb345, 2, none⟩ = some (.int .i64 (wrap64 (t327))) ∧ w'.cell? ⟨gb345, 3, none⟩ = some (.int .i64 (wrap64 (t331))) ∧ w'.cell? ⟨gb345, 4, none⟩ = some (.string t335) ∧ w'.cell? ⟨gb345, 5, none⟩ = some (.float .f64 bv344) ∧ w'.cell? (ad347.add (((ji44)).toNat * 6)) = some (.int .i64 ((rd_T30 x8_1 (ji44)).f0.f0)) ∧ w'.cell? ⟨(ad347.add (((ji44)).toNat * 6)).block, (ad347.add (((ji44)).toNat * 6)).off + 1, none⟩ = some (.int .i64 ((rd_T30 x8_1 (ji44)).f0.f1)) ∧ w'.cell? ⟨(ad347.add (((ji44)).toNat * 6)).block, (ad347.add (((ji44)).toNat * 6)).off + 2, none⟩ = some (.int .i64 ((rd_T30 x8_1 (ji44)).f1)) ∧ w'.cell? ⟨(ad347.add (((ji44)).toNat * 6)).block, (ad347.add (((ji44)).toNat * 6)).off + 3, none⟩ = some (.int .i64 ((rd_T30 x8_1 (ji44)).f2)) ∧ w'.cell? ⟨(ad347.add (((ji44)).toNat * 6)).block, (ad347.add (((ji44)).toNat * 6)).off + 4, none⟩ = some (.string ((rd_T30 x8_1 (ji44)).f3)) ∧ w'.cell? ⟨(ad347.add (((ji44)).toNat * 6)).block, (ad347.add (((ji44)).toNat * 6)).off + 5, none⟩ = some (.float .f64 bv347_5)) (ds := []) #[false, false, false, false, false, false, false, false, false, false, false, false, false, false] (by kernel_rfl) rfl rfl ⟨(blk_cell BK345.out 0).trans rfl, (blk_cell BK345.out 1).trans rfl, (blk_cell BK345.out 2).trans rfl, (blk_cell BK345.out 3).trans rfl, (blk_cell BK345.out 4).trans rfl, (blk_cell BK345.out 5).trans rfl, hx347_0, hx347_1, hx347_2, hx347_3, hx347_4, hx347_5⟩ (fun hHeld => ?_); refine with_tabW bonsairef21_Decode.tab34 bonsairef21_Decode.bits34 (fun HT_ HW_ => ?_)
                                        generalize w54.drew = w55 at HO_8 BK345 HI310 HB hx347_0 hx347_1 hx347_2 hx347_3 hx347_4 hx347_5 hHeld ⊢
                                        refine pure_ (i := 0) (N := some 131) (v := ?_) (a' := ?_) #[true, false, false, false, false, false, false, false, false, false, false, false, false, false] rfl rfl (any_of HT_.out (by kernel_rfl)) (fun _ _ _ h => h) (Or.inl ⟨by rfl, ?_⟩) ?_ ?_
                                        rotate_left
                                        · intro w'
                                          go_simp
                                          with_reducible rfl
                                        rotate_left
                                        · simp only [Act.put, List.setIfInBounds_toArray, List.set_cons_zero, List.set_cons_succ, i64_w, i32_w]
                                          rfl
                                        refine pure_ (i := 1) (N := some 132) (v := ?_) (a' := ?_) #[true, true, false, false, false, false, false, false, false, false, false, false, false, false] rfl rfl (any_of HT_.out (by kernel_rfl)) (fun _ _ _ h => h) (Or.inl ⟨by rfl, ?_⟩) ?_ ?_
                                        rotate_left
                                        · intro w'
                                          go_simp
                                          with_reducible rfl
                                        rotate_left
                                        · simp only [Act.put, List.setIfInBounds_toArray, List.set_cons_zero, List.set_cons_succ, i64_w, i32_w]
                                          rfl
                                        refine pure_ (i := 2) (N := some 133) (v := ?_) (a' := ?_) #[true, true, true, false, false, false, false, false, false, false, false, false, false, false] rfl rfl (any_of HT_.out (by kernel_rfl)) (fun _ _ _ h => h) (Or.inl ⟨by rfl, ?_⟩) ?_ ?_
                                        rotate_left
                                        · intro w'
                                          go_simp
                                          with_reducible rfl
                                        rotate_left
                                        · simp only [Act.put, List.setIfInBounds_toArray, List.set_cons_zero, List.set_cons_succ, i64_w, i32_w]
                                          rfl
                                        refine pure_ (i := 3) (N := some 134) (v := ?_) (a' := ?_) #[true, true, true, true, false, false, false, false, false, false, false, false, false, false] rfl rfl (any_of HT_.out (by kernel_rfl)) (fun _ _ _ h => h) (Or.inl ⟨by rfl, ?_⟩) ?_ ?_
                                        rotate_left
                                        · intro w'
                                          go_simp
                                          with_reducible rfl
                                        rotate_left
                                        · simp only [Act.put, List.setIfInBounds_toArray, List.set_cons_zero, List.set_cons_succ, i64_w, i32_w]
                                          rfl
                                        refine pure_ (i := 4) (N := some 135) (v := ?_) (a' := ?_) #[true, true, true, true, true, false, false, false, false, false, false, false, false, false] rfl rfl (any_of HT_.out (by kernel_rfl)) (fun _ _ _ h => h) (Or.inl ⟨by rfl, ?_⟩) ?_ ?_
                                        rotate_left
                                        · intro w'
                                          go_simp
                                          with_reducible rfl
                                        rotate_left
                                        · simp only [Act.put, List.setIfInBounds_toArray, List.set_cons_zero, List.set_cons_succ, i64_w, i32_w]
                                          rfl
                                        refine pure_ (i := 5) (N := some 136) (v := ?_) (a' := ?_) #[true, true, true, true, true, true, false, false, false, false, false, false, false, false] rfl rfl (any_of HT_.out (by kernel_rfl)) (fun _ _ _ h => h) (Or.inl ⟨by rfl, ?_⟩) ?_ ?_
                                        rotate_left
                                        · intro w'
                                          go_simp
                                          with_reducible rfl
                                        rotate_left
                                        · simp only [Act.put, List.setIfInBounds_toArray, List.set_cons_zero, List.set_cons_succ, i64_w, i32_w]
                                          rfl
                                        refine pure_ (i := 6) (N := some 137) (v := ?_) (a' := ?_) #[true, true, true, true, true, true, true, false, false, false, false, false, false, false] rfl rfl (any_of HT_.out (by kernel_rfl)) (fun _ _ _ h => h) (Or.inl ⟨by rfl, ?_⟩) ?_ ?_
                                        rotate_left
                                        · intro w'
                                          go_simp
                                          with_reducible rfl
                                        rotate_left
                                        · simp only [Act.put, List.setIfInBounds_toArray, List.set_cons_zero, List.set_cons_succ, i64_w, i32_w]
                                          rfl
                                        refine pure_ (i := 7) (N := some 138) (v := ?_) (a' := ?_) #[true, true, true, true, true, true, true, true, false, false, false, false, false, false] rfl rfl (any_of HT_.out (by kernel_rfl)) (fun _ _ _ h => h) (Or.inl ⟨by rfl, ?_⟩) ?_ ?_
                                        rotate_left
                                        · intro w'
                                          go_simp
                                          with_reducible rfl
                                        rotate_left
                                        · simp only [Act.put, List.setIfInBounds_toArray, List.set_cons_zero, List.set_cons_succ, i64_w, i32_w]
                                          rfl
                                        refine pure_ (i := 9) (N := some 140) (v := ?_) (a' := ?_) #[true, true, true, true, true, true, true, true, false, true, false, false, false, false] rfl rfl (any_of HT_.out (by kernel_rfl)) (fun _ _ _ h => h) (Or.inl ⟨by rfl, ?_⟩) ?_ ?_
                                        rotate_left
                                        · intro w'
                                          go_simp
                                          with_reducible rfl
                                        rotate_left
                                        · simp only [Act.put, List.setIfInBounds_toArray, List.set_cons_zero, List.set_cons_succ, i64_w, i32_w]
                                          rfl
                                        refine take_ (i := 8) (N := some 139) (v := ?_) (a' := ?_) #[true, true, true, true, true, true, true, true, true, true, false, false, false, false] rfl rfl (take_ofW HT_.out HW_.out (by kernel_rfl)) (fun _ _ _ h => h) (Or.inl ⟨by rfl, ?_⟩) hHeld ?_ ?_
                                        rotate_left
                                        · rintro w' ⟨s0, s1, s2, s3, s4, s5, s6, s7, s8, s9, s10, s11⟩
                                          go_simp
                                          with_reducible rfl
                                        rotate_left
                                        · simp only [Act.put, List.setIfInBounds_toArray, List.set_cons_zero, List.set_cons_succ, i64_w, i32_w]
                                          rfl
                                        refine take_ (i := 10) (N := some 141) (v := ?_) (a' := ?_) #[true, true, true, true, true, true, true, true, true, true, true, false, false, false] rfl rfl (take_ofW HT_.out HW_.out (by kernel_rfl)) (fun _ _ _ h => h) (Or.inl ⟨by rfl, ?_⟩) hHeld ?_ ?_
                                        rotate_left
                                        · rintro w' ⟨s0, s1, s2, s3, s4, s5, s6, s7, s8, s9, s10, s11⟩
                                          go_simp
                                          with_reducible rfl
                                        rotate_left
                                        · simp only [Act.put, List.setIfInBounds_toArray, List.set_cons_zero, List.set_cons_succ, i64_w, i32_w]
                                          rfl
                                        refine one_ (i := 11) (N := some 142) #[true, true, true, true, true, true, true, true, true, true, true, true, false, false] rfl rfl (one_of HT_.out (by kernel_rfl)) (by decide) (fun K hK => ?_)
                                        refine goes_ Try.func42 (by kernel_rfl) rfl #[.agg #[.int .i64 ((rd_T30 x8_1 (ji44)).f0.f0), .int .i64 ((rd_T30 x8_1 (ji44)).f0.f1)], .agg #[.int .i64 (wrap64 (t319)), .int .i64 (wrap64 (t323))]] (by rfl) rfl rfl (by (try simp only [List.map_toArray, List.map_cons, List.map_nil]); first | done | (simp only [hji44]; rfl) | rfl | (simp only [List.length_drop, List.length_take]; rfl)) ?_
                                        with_reducible refine (bonsairef02_Before.calls ((rd_T30 x8_1 (ji44)).f0.f0) ((rd_T30 x8_1 (ji44)).f0.f1) (wrap64 (t319)) (wrap64 (t323)) true _ A47.out).mono ?_
                                        rintro e w57 ⟨rfl, hb⟩
                                        have HS6_ := (hb.cell (World.block_lt_of_cell? _ _ (hHeld.2.2.2.2.2.2.1))).trans (hHeld.2.2.2.2.2.2.1)
                                        have HS7_ := (hb.cell (World.block_lt_of_cell? _ _ (hHeld.2.2.2.2.2.2.2.1))).trans (hHeld.2.2.2.2.2.2.2.1)
                                        have HS8_ := (hb.cell (World.block_lt_of_cell? _ _ (hHeld.2.2.2.2.2.2.2.2.1))).trans (hHeld.2.2.2.2.2.2.2.2.1)
                                        have HS9_ := (hb.cell (World.block_lt_of_cell? _ _ (hHeld.2.2.2.2.2.2.2.2.2.1))).trans (hHeld.2.2.2.2.2.2.2.2.2.1)
                                        have HS10_ := (hb.cell (World.block_lt_of_cell? _ _ (hHeld.2.2.2.2.2.2.2.2.2.2.1))).trans (hHeld.2.2.2.2.2.2.2.2.2.2.1)
                                        have HS11_ := (hb.cell (World.block_lt_of_cell? _ _ (hHeld.2.2.2.2.2.2.2.2.2.2.2))).trans (hHeld.2.2.2.2.2.2.2.2.2.2.2)
                                        refine ⟨_, rfl, ?_⟩
                                        have n0_ := Aside0.mk (Kd.R_below (by (with_reducible repeat (first | apply Kd.R_alloc | apply Kd.R_drewN | apply Kd.R_drew)); exact HO_8.out) hb)
                                        have n1_ := Aside0.mk (IsS68.below (by repeat (first | (with_reducible first | exact HI310.out | apply IsS68.alloc | apply IsS68.drewN | apply IsS68.drew | apply IsS68.set_0 | apply IsS68.set_1 | apply IsS68.set_2 | refine IsS68.far ?_ NB310_345.out _) | exact HI310.out)) hb)
                                        have n2_ := Aside0.mk (blk_below (g := gb345) (o := .cells #[.int .i64 (wrap64 (t319)), .int .i64 (wrap64 (t323)), .int .i64 (wrap64 (t327)), .int .i64 (wrap64 (t331)), .string t335, .float .f64 bv344] 30 (0, 0)) (by (with_reducible repeat (first | refine blk_drewN ?_ _ | refine blk_drew ?_ | refine blk_alloc ?_ _)); exact BK345.out) hb)
                                        have n3_ := Aside0.mk (below_step (by repeat (first | (with_reducible first | exact HB.out | apply below_alloc | apply pw_below_drewN | apply below_drew1 | refine below_set ?_ (IsS68.ge HI310.out) | refine below_set ?_ GE345.out) | exact HB.out)) hb)
                                        clear HO_8
                                        clear HI310
                                        clear BK345
                                        clear HB
                                        have HO_8 := n0_
                                        have HI310 := n1_
                                        have BK345 := n2_
                                        have HB := n3_
                                        clear n0_ n1_ n2_ n3_
                                        (try clear hb)
                                        (try clear hb2)
                                        (try clear hk)
                                        (try clear hi)
                                        refine hK.out _ _ ⟨(blk_cell BK345.out 0).trans rfl, (blk_cell BK345.out 1).trans rfl, (blk_cell BK345.out 2).trans rfl, (blk_cell BK345.out 3).trans rfl, (blk_cell BK345.out 4).trans rfl, (blk_cell BK345.out 5).trans rfl, HS6_, HS7_, HS8_, HS9_, HS10_, HS11_⟩ (fun hHeld => ?_)
                                        clear hK K
                                        refine norm_ (a' := ?_) ?_ ?_
                                        rotate_left
                                        · show Act.put _ (some 142) _ = _
                                          simp only [Act.put, List.setIfInBounds_toArray, List.set_cons_zero, List.set_cons_succ, i64_w, i32_w]
                                          rfl
                                        refine pure_ (i := 12) (N := some 143) (v := ?_) (a' := ?_) #[true, true, true, true, true, true, true, true, true, true, true, true, true, false] rfl rfl (any_of HT_.out (by kernel_rfl)) (fun _ _ _ h => h) (Or.inl ⟨by rfl, ?_⟩) ?_ ?_
                                        rotate_left
                                        · intro w'
                                          go_simp
                                          with_reducible rfl
                                        rotate_left
                                        · simp only [Act.put, List.setIfInBounds_toArray, List.set_cons_zero, List.set_cons_succ, i64_w, i32_w]
                                          rfl
                                        refine pure_ (i := 13) (N := some 144) (v := ?_) (a' := ?_) #[true, true, true, true, true, true, true, true, true, true, true, true, true, true] rfl rfl (any_of HT_.out (by kernel_rfl)) (fun _ _ _ h => h) (Or.inl ⟨by rfl, ?_⟩) ?_ ?_
                                        rotate_left
                                        · intro w'
                                          go_simp
                                          with_reducible rfl
                                        rotate_left
                                        · simp only [Act.put, List.setIfInBounds_toArray, List.set_cons_zero, List.set_cons_succ, i64_w, i32_w]
                                          rfl
                                        refine done_ (done_of HT_.out (by kernel_rfl)) ?_
                                        have hcz58_0 : w57.cell? ⟨gb345, 0, none⟩ = some (.int .i64 (wrap64 (t319))) := (blk_cell BK345.out 0).trans rfl
                                        have hcz58_1 : w57.cell? ⟨gb345, 1, none⟩ = some (.int .i64 (wrap64 (t323))) := (blk_cell BK345.out 1).trans rfl
                                        have hcz58_2 : w57.cell? ⟨gb345, 2, none⟩ = some (.int .i64 (wrap64 (t327))) := (blk_cell BK345.out 2).trans rfl
                                        have hcz58_3 : w57.cell? ⟨gb345, 3, none⟩ = some (.int .i64 (wrap64 (t331))) := (blk_cell BK345.out 3).trans rfl
                                        have hcz58_4 : w57.cell? ⟨gb345, 4, none⟩ = some (.string t335) := (blk_cell BK345.out 4).trans rfl
                                        have hcz58_5 : w57.cell? ⟨gb345, 5, none⟩ = some (.float .f64 bv344) := (blk_cell BK345.out 5).trans rfl
                                        have hfz58_0 := blk_frozen BK345.out 0
                                        have hfz58_1 := blk_frozen BK345.out 1
                                        have hfz58_2 := blk_frozen BK345.out 2
                                        have hfz58_3 := blk_frozen BK345.out 3
                                        have hfz58_4 := blk_frozen BK345.out 4
                                        have hfz58_5 := blk_frozen BK345.out 5
                                        try go_wp2_with (first | ((with_reducible refine gate_builtin (b := .append) (xs := #[.tmp 145, .tmp 147]) rfl ?_); at_builtin; refine Kd.R_append k30 (w0 := w) w.heap.size rfl (.tmp 145) (.tmp 147) 22 30 (.agg #[(.int .i64 0), (.int .i64 0), (.int .i64 0), (.int .i64 0), (.string ⟨#[]⟩), (.float .f64 0)]) 56 rfl Try.underlying22 info30 rfl (by decide) (by omega) (.slice (some ad347) x8_1.length co56) x8_1 (⟨(⟨wrap64 (t319), wrap64 (t323)⟩ : S27), wrap64 (t327), wrap64 (t331), t335, t343⟩ : S30) [.int .i64 (wrap64 (t319)), .int .i64 (wrap64 (t323)), .int .i64 (wrap64 (t327)), .int .i64 (wrap64 (t331)), .string t335, .float .f64 bv344] (fun k_ => k_ ≠ gb345) (fun _ => False) rfl rfl ?aP (fun _ hk => hk.elim) ?aF ?aO ?aB ?aS ?aL ?_; (case aP => exact k30_mkM _ _ _ (⟨(⟨wrap64 (t319), wrap64 (t323)⟩ : S27), wrap64 (t327), wrap64 (t331), t335, t343⟩ : S30) (by first | assumption | exact FB_lit _ _ rfl | exact FB_int _ | simpa using (by assumption))); (case aB => exact (by repeat (first | (with_reducible first | exact HB.out | apply below_alloc | apply pw_below_drewN | apply below_drew1 | refine below_set ?_ (IsS68.ge HI310.out) | refine below_set ?_ GE345.out) | exact HB.out))); (case aF => exact (fun k_ hk => Kd.freshB (g := gb345) (o := .cells #[.int .i64 (wrap64 (t319)), .int .i64 (wrap64 (t323)), .int .i64 (wrap64 (t327)), .int .i64 (wrap64 (t331)), .string t335, .float .f64 bv344] 30 (0, 0)) (by (with_reducible repeat (first | refine blk_drewN ?_ _ | refine blk_drew ?_ | refine blk_alloc ?_ _)); exact BK345.out) k_ hk)); (case aO => exact (by (with_reducible repeat (first | apply Kd.R_alloc | apply Kd.R_drewN | apply Kd.R_drew)); exact Kd.R_mono HO_8.out (fun _ hk => hk.2))); (case aS => exact (below_size (by repeat (first | (with_reducible first | exact HB.out | apply below_alloc | apply pw_below_drewN | apply below_drew1 | refine below_set ?_ (IsS68.ge HI310.out) | refine below_set ?_ GE345.out) | exact HB.out)))); (case aL => have := LMc49.out; omega); intro v350 w59 ho hb hg hat; rw [← Ny349.out] at ho; have n0_ := Aside0.mk (IsS68.grown (by repeat (first | (with_reducible first | exact HI310.out | apply IsS68.alloc | apply IsS68.drewN | apply IsS68.drew | apply IsS68.set_0 | apply IsS68.set_1 | apply IsS68.set_2 | refine IsS68.far ?_ NB310_345.out _) | exact HI310.out)) hg (IsS68.own_ne HI310.out HO_8.out (by decide))); have n1_ := Aside0.mk (blk_grown (g := gb345) (o := .cells #[.int .i64 (wrap64 (t319)), .int .i64 (wrap64 (t323)), .int .i64 (wrap64 (t327)), .int .i64 (wrap64 (t331)), .string t335, .float .f64 bv344] 30 (0, 0)) (by (with_reducible repeat (first | refine blk_drewN ?_ _ | refine blk_drew ?_ | refine blk_alloc ?_ _)); exact BK345.out) hg (Kd.R_away HO_8.out (fun _ hk => hk.2))); have n2_ := Aside0.mk (hb); have n3_ := Aside0.mk (ho); clear HI310; clear BK345; clear HB; clear HO_8; have HI310 := n0_; have BK345 := n1_; have HB := n2_; have HO351 := n3_; clear n0_ n1_ n2_ n3_; clear ho hb hg hat))
                                        go_roundg kj23
                                        case measure => have := HK1.out; have := HJ23.out; omega
                                        case rel => exact ⟨(y349), (wrap64 (x9_1 + 1)), (t339), (t340), (t341), (by first | rfl | (simp; done) | (simp [*]; done)), H', ⟨by have := HK1.out; have := HJ23.out; omega⟩, ⟨by (with_reducible repeat (first | apply Kd.R_alloc | apply Kd.R_drewN | apply Kd.R_drew)); exact Kd.R_mono HO351.out (fun _ hk => trivial)⟩, ⟨by repeat (first | (with_reducible first | exact HI310.out | apply IsS68.alloc | apply IsS68.drewN | apply IsS68.drew | apply IsS68.set_0 | apply IsS68.set_1 | apply IsS68.set_2 | refine IsS68.far ?_ NB310_345.out _) | exact HI310.out)⟩, ⟨by repeat (first | (with_reducible first | exact HB.out | apply below_alloc | apply pw_below_drewN | apply below_drew1 | refine below_set ?_ (IsS68.ge HI310.out) | refine below_set ?_ GE345.out) | exact HB.out)⟩⟩
                                      · rw [if_neg c49] at H
                                        exact absurd H (by simp)
                                    · replace c48 := Bool.eq_false_iff.mpr c48
                                      subst c48
                                      have H1 : (some (([] : List (S30)), 12)) = some (r1, r2) := by rw [if_neg (show ¬ (false = true) by decide)] at H; exact H
                                      clear H
                                      have H := H1
                                      clear H1
                                      simp only [Option.some.injEq, Prod.mk.injEq] at H
                                      obtain ⟨rfl, rfl⟩ := H
                                      try go_wp2_with (first | ((with_reducible refine gate_callee (f := 40) rfl ?_); refine goesL_ (some 126) rfl rfl Try.func40 (by kernel_rfl) rfl #[.int .u64 t338] rfl (by (try simp only [List.map_toArray, List.map_cons, List.map_nil]); first | done | rfl | (simp only [List.length_drop, List.length_take]; rfl)) ?_; (with_reducible refine (bonsairef01_Float.calls t338 t343 _ A40.out).mono ?_); rintro e w60 ⟨bv344, rfl, bq344, hb⟩; refine ⟨_, rfl, ?_⟩; have n0_ := Aside0.mk (Kd.R_below (by (with_reducible repeat (first | apply Kd.R_alloc | apply Kd.R_drewN | apply Kd.R_drew)); exact HO_8.out) hb); have n1_ := Aside0.mk (IsS68.below (by repeat (first | (with_reducible first | exact HI310.out | apply IsS68.alloc | apply IsS68.drewN | apply IsS68.drew | apply IsS68.set_0 | apply IsS68.set_1 | apply IsS68.set_2) | exact HI310.out)) hb); have n2_ := Aside0.mk (below_step (by repeat (first | (with_reducible first | exact HB.out | apply below_alloc | apply pw_below_drewN | apply below_drew1 | refine below_set ?_ (IsS68.ge HI310.out)) | exact HB.out)) hb); clear HO_8; clear HI310; clear HB; have HO_8 := n0_; have HI310 := n1_; have HB := n2_; clear n0_ n1_ n2_; (try clear hb); (try clear hb2); (try clear hk); (try clear hi)) | ((with_reducible refine gate_dst (N := 18) rfl ?_); refine box_event ?hg (N := 18) ?hd (cs := #[.int .i64 0, .int .i64 0, .int .i64 0, .int .i64 0, .string (⟨#[]⟩ : ByteArray), .float .f64 0]) (t := 30) ?hr ?_; (case hd => rfl); (case hg => rfl); (case hr => first | (go_simp; done) | (go_simp; rfl)); intro gb345 hg w61 hbox hb; have n0_ := Aside0.mk (Kd.R_below (Kd.R_elderB (by (with_reducible repeat (first | apply Kd.R_alloc | apply Kd.R_drewN | apply Kd.R_drew)); exact HO_8.out) gb345 (Nat.le_of_eq hg.symm)) hb); have n1_ := Aside0.mk (IsS68.below (by repeat (first | (with_reducible first | exact HI310.out | apply IsS68.alloc | apply IsS68.drewN | apply IsS68.drew | apply IsS68.set_0 | apply IsS68.set_1 | apply IsS68.set_2) | exact HI310.out)) hb); have n2_ := Aside0.mk (below_step (by repeat (first | (with_reducible first | exact HB.out | apply below_alloc | apply pw_below_drewN | apply below_drew1 | refine below_set ?_ (IsS68.ge HI310.out)) | exact HB.out)) hb); have n3_ := Aside0.mk (hbox); have n4_ := Aside0.mk ((by rw [hg]; exact (below_size (by repeat (first | (with_reducible first | exact HB.out | apply below_alloc | apply pw_below_drewN | apply below_drew1 | refine below_set ?_ (IsS68.ge HI310.out)) | exact HB.out))) : w.heap.size ≤ gb345)); have n5_ := Aside0.mk ((by rw [hg]; exact (below_size (by repeat (first | (with_reducible first | exact HB.out | apply below_alloc | apply pw_below_drewN | apply below_drew1 | refine below_set ?_ (IsS68.ge HI310.out)) | exact HB.out))) : w.heap.size ≤ gb345)); have n6_ := Aside0.mk ((by rw [hg]; exact Nat.ne_of_lt (IsS68.lt (show IsS68 w _ gb310 t339 t340 t341 from by repeat (first | (with_reducible first | exact HI310.out | apply IsS68.alloc | apply IsS68.drewN | apply IsS68.drew | apply IsS68.set_0 | apply IsS68.set_1 | apply IsS68.set_2) | exact HI310.out))) : gb310 ≠ gb345)); have n7_ := Aside0.mk ((by rw [hg]; exact Nat.ne_of_gt (IsS68.lt (show IsS68 w _ gb310 t339 t340 t341 from by repeat (first | (with_reducible first | exact HI310.out | apply IsS68.alloc | apply IsS68.drewN | apply IsS68.drew | apply IsS68.set_0 | apply IsS68.set_1 | apply IsS68.set_2) | exact HI310.out))) : gb345 ≠ gb310)); clear HO_8; clear HI310; clear HB; have HO_8 := n0_; have HI310 := n1_; have HB := n2_; have BK345 := n3_; have GW345 := n4_; have GE345 := n5_; have NB310_345 := n6_; have NB345_310 := n7_; clear n0_ n1_ n2_ n3_ n4_ n5_ n6_ n7_; clear hb hbox hg; have hnb62 := NB345_310.out; have hnc62 := NB310_345.out; have hcz63_0 : w61.cell? ⟨gb345, 0, none⟩ = some (.int .i64 0) := (blk_cell BK345.out 0).trans rfl; have hcz63_1 : w61.cell? ⟨gb345, 1, none⟩ = some (.int .i64 0) := (blk_cell BK345.out 1).trans rfl; have hcz63_2 : w61.cell? ⟨gb345, 2, none⟩ = some (.int .i64 0) := (blk_cell BK345.out 2).trans rfl; have hcz63_3 : w61.cell? ⟨gb345, 3, none⟩ = some (.int .i64 0) := (blk_cell BK345.out 3).trans rfl; have hcz63_4 : w61.cell? ⟨gb345, 4, none⟩ = some (.string (⟨#[]⟩ : ByteArray)) := (blk_cell BK345.out 4).trans rfl; have hcz63_5 : w61.cell? ⟨gb345, 5, none⟩ = some (.float .f64 0) := (blk_cell BK345.out 5).trans rfl; have hfz63_0 := blk_frozen BK345.out 0; have hfz63_1 := blk_frozen BK345.out 1; have hfz63_2 := blk_frozen BK345.out 2; have hfz63_3 := blk_frozen BK345.out 3; have hfz63_4 := blk_frozen BK345.out 4; have hfz63_5 := blk_frozen BK345.out 5) | ((with_reducible refine gate_callee (f := 41) rfl ?_); refine goesL_ (some 129) rfl rfl Try.func41 (by kernel_rfl) rfl #[.agg #[.int .i64 (wrap64 (t319)), .int .i64 (wrap64 (t323)), .int .i64 (wrap64 (t327)), .int .i64 (wrap64 (t331)), .string t335, .float .f64 bv344]] rfl (by (try simp only [List.map_toArray, List.map_cons, List.map_nil]); first | done | rfl | (simp only [List.length_drop, List.length_take]; rfl)) ?_; (with_reducible refine (bonsairef13_One.calls kj23 (wrap64 (t319)) (wrap64 (t323)) (wrap64 (t327)) (wrap64 (t331)) t335 _ t343 true _ ?side1 A41.out).mono ?_); (case side1 => exact (by first | assumption | exact FB_lit _ _ rfl | exact FB_int _ | simpa using (by assumption))); rintro e w64 ⟨rfl, hb⟩; refine ⟨_, rfl, ?_⟩; have n0_ := Aside0.mk (Kd.R_below (by (with_reducible repeat (first | apply Kd.R_alloc | apply Kd.R_drewN | apply Kd.R_drew)); exact (Kd.R_mono (Kd.R_far (p := ⟨gb345, 5, none⟩) (Kd.R_far (p := ⟨gb345, 4, none⟩) (Kd.R_far (p := ⟨gb345, 3, none⟩) (Kd.R_far (p := ⟨gb345, 2, none⟩) (Kd.R_far (p := ⟨gb345, 1, none⟩) (Kd.R_far (p := ⟨gb345, 0, none⟩) (Kd.R_mono HO_8.out (fun k_ hk => (⟨hk, hk.2⟩ : _ ∧ k_ ≠ gb345))) (fun _ hk => hk.2) (.int .i64 (wrap64 (t319)))) (fun _ hk => hk.2) (.int .i64 (wrap64 (t323)))) (fun _ hk => hk.2) (.int .i64 (wrap64 (t327)))) (fun _ hk => hk.2) (.int .i64 (wrap64 (t331)))) (fun _ hk => hk.2) (.string t335)) (fun _ hk => hk.2) (.float .f64 bv344)) (fun _ h_ => h_.1))) hb); have n1_ := Aside0.mk (IsS68.below (show IsS68 w ((((((w61.setCell ⟨gb345, 0, none⟩ (.int .i64 (wrap64 (t319)))).setCell ⟨gb345, 1, none⟩ (.int .i64 (wrap64 (t323)))).setCell ⟨gb345, 2, none⟩ (.int .i64 (wrap64 (t327)))).setCell ⟨gb345, 3, none⟩ (.int .i64 (wrap64 (t331)))).setCell ⟨gb345, 4, none⟩ (.string t335)).setCell ⟨gb345, 5, none⟩ (.float .f64 bv344)) gb310 t339 t340 t341 from by repeat (first | (with_reducible first | exact HI310.out | apply IsS68.alloc | apply IsS68.drewN | apply IsS68.drew | apply IsS68.set_0 | apply IsS68.set_1 | apply IsS68.set_2 | refine IsS68.far ?_ NB310_345.out _) | exact HI310.out)) hb); have n2_ := Aside0.mk (blk_below (g := gb345) (o := .cells #[.int .i64 (wrap64 (t319)), .int .i64 (wrap64 (t323)), .int .i64 (wrap64 (t327)), .int .i64 (wrap64 (t331)), .string t335, .float .f64 bv344] 30 (0, 0)) (by (with_reducible repeat (first | refine blk_drewN ?_ _ | refine blk_drew ?_ | refine blk_alloc ?_ _)); refine blk_put (cs := #[.int .i64 (wrap64 (t319)), .int .i64 (wrap64 (t323)), .int .i64 (wrap64 (t327)), .int .i64 (wrap64 (t331)), .string t335, .float .f64 0]) ?_ 5 _ rfl; (with_reducible repeat (first | refine blk_drewN ?_ _ | refine blk_drew ?_ | refine blk_alloc ?_ _)); refine blk_put (cs := #[.int .i64 (wrap64 (t319)), .int .i64 (wrap64 (t323)), .int .i64 (wrap64 (t327)), .int .i64 (wrap64 (t331)), .string (⟨#[]⟩ : ByteArray), .float .f64 0]) ?_ 4 _ rfl; (with_reducible repeat (first | refine blk_drewN ?_ _ | refine blk_drew ?_ | refine blk_alloc ?_ _)); refine blk_put (cs := #[.int .i64 (wrap64 (t319)), .int .i64 (wrap64 (t323)), .int .i64 (wrap64 (t327)), .int .i64 0, .string (⟨#[]⟩ : ByteArray), .float .f64 0]) ?_ 3 _ rfl; (with_reducible repeat (first | refine blk_drewN ?_ _ | refine blk_drew ?_ | refine blk_alloc ?_ _)); refine blk_put (cs := #[.int .i64 (wrap64 (t319)), .int .i64 (wrap64 (t323)), .int .i64 0, .int .i64 0, .string (⟨#[]⟩ : ByteArray), .float .f64 0]) ?_ 2 _ rfl; (with_reducible repeat (first | refine blk_drewN ?_ _ | refine blk_drew ?_ | refine blk_alloc ?_ _)); refine blk_put (cs := #[.int .i64 (wrap64 (t319)), .int .i64 0, .int .i64 0, .int .i64 0, .string (⟨#[]⟩ : ByteArray), .float .f64 0]) ?_ 1 _ rfl; (with_reducible repeat (first | refine blk_drewN ?_ _ | refine blk_drew ?_ | refine blk_alloc ?_ _)); refine blk_put (cs := #[.int .i64 0, .int .i64 0, .int .i64 0, .int .i64 0, .string (⟨#[]⟩ : ByteArray), .float .f64 0]) ?_ 0 _ rfl; (with_reducible repeat (first | refine blk_drewN ?_ _ | refine blk_drew ?_ | refine blk_alloc ?_ _)); exact BK345.out) hb); have n3_ := Aside0.mk (below_step (by repeat (first | (with_reducible first | exact HB.out | apply below_alloc | apply pw_below_drewN | apply below_drew1 | refine below_set ?_ (IsS68.ge HI310.out) | refine below_set ?_ GE345.out) | exact HB.out)) hb); clear HO_8; clear HI310; clear BK345; clear HB; have HO_8 := n0_; have HI310 := n1_; have BK345 := n2_; have HB := n3_; clear n0_ n1_ n2_ n3_; (try clear hb); (try clear hb2); (try clear hk); (try clear hi)))
                                      have n0_ := Aside0.mk (Kd.R_drew HO_8.out)
                                      have n1_ := Aside0.mk (blk_drew BK345.out)
                                      have n2_ := Aside0.mk (IsS68.drew HI310.out)
                                      have n3_ := Aside0.mk (below_drew1 HB.out)
                                      clear HO_8
                                      clear BK345
                                      clear HI310
                                      clear HB
                                      have HO_8 := n0_
                                      have BK345 := n1_
                                      have HI310 := n2_
                                      have HB := n3_
                                      clear n0_ n1_ n2_ n3_
                                      obtain ⟨Ao66, co66, eo66⟩ := Kd.R_slice HO_8.out
                                      (first | subst eo66 | (injection eo66 with f1_ f2_ f3_; have f4_ := f1_.symm; have f5_ := f3_.symm; clear f1_ f2_ f3_; subst f4_; subst f5_))
                                      have p347 : 0 ≤ ((ji44) : Int) := of_decide_eq_true (by first | (with_reducible assumption) | assumption)
                                      have q347 : (ji44) < (x8_1.length : Int) := of_decide_eq_true (by first | (with_reducible assumption) | assumption)
                                      obtain ⟨ad347, bv347_5, e347, hx347_0, hx347_1, hx347_2, hx347_3, hx347_4, hx347_5, bq347_5⟩ := at_T30 (Kd.R_reads' HO_8.out).2.2 (ji44) p347 q347
                                      cases e347
                                      replace p347 := eq_true p347
                                      replace q347 := eq_true q347
                                      refine start_ (n := 14) (S := fun w' => w'.cell? ⟨gb345, 0, none⟩ = some (.int .i64 (wrap64 (t319))) ∧ w'.cell? ⟨gb345, 1, none⟩ = some (.int .i64 (wrap64 (t323))) ∧ w'.cell? ⟨gb345, 2, none⟩ = some (.int .i64 (wrap64 (t327))) ∧ w'.cell? ⟨gb345, 3, none⟩ = some (.int .i64 (wrap64 (t331))) ∧ w'.cell? ⟨gb345, 4, none⟩ = some (.string t335) ∧ w'.cell? ⟨gb345, 5, none⟩ = some (.float .f64 bv344) ∧ w'.cell? (ad347.add (((ji44)).toNat * 6)) = some (.int .i64 ((rd_T30 x8_1 (ji44)).f0.f0)) ∧ w'.cell? ⟨(ad347.add (((ji44)).toNat * 6)).block, (ad347.add (((ji44)).toNat * 6)).off + 1, none⟩ = some (.int .i64 ((rd_T30 x8_1 (ji44)).f0.f1)) ∧ w'.cell? ⟨(ad347.add (((ji44)).toNat * 6)).block, (ad347.add (((ji44)).toNat * 6)).off + 2, none⟩ = some (.int .i64 ((rd_T30 x8_1 (ji44)).f1)) ∧ w'.cell? ⟨(ad347.add (((ji44)).toNat * 6)).block, (ad347.add (((ji44)).toNat * 6)).off + 3, none⟩ = some (.int .i64 ((rd_T30 x8_1 (ji44)).f2)) ∧ w'.cell? ⟨(ad347.add (((ji44)).toNat * 6)).block, (ad347.add (((ji44)).toNat * 6)).off + 4, none⟩ = some (.string ((rd_T30 x8_1 (ji44)).f3)) ∧ w'.cell? ⟨(ad347.add (((ji44)).toNat * 6)).block, (ad347.add (((ji44)).toNat * 6)).off + 5, none⟩ = some (.float .f64 bv347_5)) (ds := []) #[false, false, false, false, false, false, false, false, false, false, false, false, false, false] (by kernel_rfl) rfl rfl ⟨(blk_cell BK345.out 0).trans rfl, (blk_cell BK345.out 1).trans rfl, (blk_cell BK345.out 2).trans rfl, (blk_cell BK345.out 3).trans rfl, (blk_cell BK345.out 4).trans rfl, (blk_cell BK345.out 5).trans rfl, hx347_0, hx347_1, hx347_2, hx347_3, hx347_4, hx347_5⟩ (fun hHeld => ?_); refine with_tabW bonsairef21_Decode.tab34 bonsairef21_Decode.bits34 (fun HT_ HW_ => ?_)
                                      generalize w64.drew = w65 at HO_8 BK345 HI310 HB hx347_0 hx347_1 hx347_2 hx347_3 hx347_4 hx347_5 hHeld ⊢
                                      refine pure_ (i := 0) (N := some 131) (v := ?_) (a' := ?_) #[true, false, false, false, false, false, false, false, false, false, false, false, false, false] rfl rfl (any_of HT_.out (by kernel_rfl)) (fun _ _ _ h => h) (Or.inl ⟨by rfl, ?_⟩) ?_ ?_
                                      rotate_left
                                      · intro w'
                                        go_simp
                                        with_reducible rfl
                                      rotate_left
                                      · simp only [Act.put, List.setIfInBounds_toArray, List.set_cons_zero, List.set_cons_succ, i64_w, i32_w]
                                        rfl
                                      refine pure_ (i := 1) (N := some 132) (v := ?_) (a' := ?_) #[true, true, false, false, false, false, false, false, false, false, false, false, false, false] rfl rfl (any_of HT_.out (by kernel_rfl)) (fun _ _ _ h => h) (Or.inl ⟨by rfl, ?_⟩) ?_ ?_
                                      rotate_left
                                      · intro w'
                                        go_simp
                                        with_reducible rfl
                                      rotate_left
                                      · simp only [Act.put, List.setIfInBounds_toArray, List.set_cons_zero, List.set_cons_succ, i64_w, i32_w]
                                        rfl
                                      refine pure_ (i := 2) (N := some 133) (v := ?_) (a' := ?_) #[true, true, true, false, false, false, false, false, false, false, false, false, false, false] rfl rfl (any_of HT_.out (by kernel_rfl)) (fun _ _ _ h => h) (Or.inl ⟨by rfl, ?_⟩) ?_ ?_
                                      rotate_left
                                      · intro w'
                                        go_simp
                                        with_reducible rfl
                                      rotate_left
                                      · simp only [Act.put, List.setIfInBounds_toArray, List.set_cons_zero, List.set_cons_succ, i64_w, i32_w]
                                        rfl
                                      refine pure_ (i := 3) (N := some 134) (v := ?_) (a' := ?_) #[true, true, true, true, false, false, false, false, false, false, false, false, false, false] rfl rfl (any_of HT_.out (by kernel_rfl)) (fun _ _ _ h => h) (Or.inl ⟨by rfl, ?_⟩) ?_ ?_
                                      rotate_left
                                      · intro w'
                                        go_simp
                                        with_reducible rfl
                                      rotate_left
                                      · simp only [Act.put, List.setIfInBounds_toArray, List.set_cons_zero, List.set_cons_succ, i64_w, i32_w]
                                        rfl
                                      refine pure_ (i := 4) (N := some 135) (v := ?_) (a' := ?_) #[true, true, true, true, true, false, false, false, false, false, false, false, false, false] rfl rfl (any_of HT_.out (by kernel_rfl)) (fun _ _ _ h => h) (Or.inl ⟨by rfl, ?_⟩) ?_ ?_
                                      rotate_left
                                      · intro w'
                                        go_simp
                                        with_reducible rfl
                                      rotate_left
                                      · simp only [Act.put, List.setIfInBounds_toArray, List.set_cons_zero, List.set_cons_succ, i64_w, i32_w]
                                        rfl
                                      refine pure_ (i := 5) (N := some 136) (v := ?_) (a' := ?_) #[true, true, true, true, true, true, false, false, false, false, false, false, false, false] rfl rfl (any_of HT_.out (by kernel_rfl)) (fun _ _ _ h => h) (Or.inl ⟨by rfl, ?_⟩) ?_ ?_
                                      rotate_left
                                      · intro w'
                                        go_simp
                                        with_reducible rfl
                                      rotate_left
                                      · simp only [Act.put, List.setIfInBounds_toArray, List.set_cons_zero, List.set_cons_succ, i64_w, i32_w]
                                        rfl
                                      refine pure_ (i := 6) (N := some 137) (v := ?_) (a' := ?_) #[true, true, true, true, true, true, true, false, false, false, false, false, false, false] rfl rfl (any_of HT_.out (by kernel_rfl)) (fun _ _ _ h => h) (Or.inl ⟨by rfl, ?_⟩) ?_ ?_
                                      rotate_left
                                      · intro w'
                                        go_simp
                                        with_reducible rfl
                                      rotate_left
                                      · simp only [Act.put, List.setIfInBounds_toArray, List.set_cons_zero, List.set_cons_succ, i64_w, i32_w]
                                        rfl
                                      refine pure_ (i := 7) (N := some 138) (v := ?_) (a' := ?_) #[true, true, true, true, true, true, true, true, false, false, false, false, false, false] rfl rfl (any_of HT_.out (by kernel_rfl)) (fun _ _ _ h => h) (Or.inl ⟨by rfl, ?_⟩) ?_ ?_
                                      rotate_left
                                      · intro w'
                                        go_simp
                                        with_reducible rfl
                                      rotate_left
                                      · simp only [Act.put, List.setIfInBounds_toArray, List.set_cons_zero, List.set_cons_succ, i64_w, i32_w]
                                        rfl
                                      refine pure_ (i := 9) (N := some 140) (v := ?_) (a' := ?_) #[true, true, true, true, true, true, true, true, false, true, false, false, false, false] rfl rfl (any_of HT_.out (by kernel_rfl)) (fun _ _ _ h => h) (Or.inl ⟨by rfl, ?_⟩) ?_ ?_
                                      rotate_left
                                      · intro w'
                                        go_simp
                                        with_reducible rfl
                                      rotate_left
                                      · simp only [Act.put, List.setIfInBounds_toArray, List.set_cons_zero, List.set_cons_succ, i64_w, i32_w]
                                        rfl
                                      refine take_ (i := 8) (N := some 139) (v := ?_) (a' := ?_) #[true, true, true, true, true, true, true, true, true, true, false, false, false, false] rfl rfl (take_ofW HT_.out HW_.out (by kernel_rfl)) (fun _ _ _ h => h) (Or.inl ⟨by rfl, ?_⟩) hHeld ?_ ?_
                                      rotate_left
                                      · rintro w' ⟨s0, s1, s2, s3, s4, s5, s6, s7, s8, s9, s10, s11⟩
                                        go_simp
                                        with_reducible rfl
                                      rotate_left
                                      · simp only [Act.put, List.setIfInBounds_toArray, List.set_cons_zero, List.set_cons_succ, i64_w, i32_w]
                                        rfl
                                      refine take_ (i := 10) (N := some 141) (v := ?_) (a' := ?_) #[true, true, true, true, true, true, true, true, true, true, true, false, false, false] rfl rfl (take_ofW HT_.out HW_.out (by kernel_rfl)) (fun _ _ _ h => h) (Or.inl ⟨by rfl, ?_⟩) hHeld ?_ ?_
                                      rotate_left
                                      · rintro w' ⟨s0, s1, s2, s3, s4, s5, s6, s7, s8, s9, s10, s11⟩
                                        go_simp
                                        with_reducible rfl
                                      rotate_left
                                      · simp only [Act.put, List.setIfInBounds_toArray, List.set_cons_zero, List.set_cons_succ, i64_w, i32_w]
                                        rfl
                                      refine one_ (i := 11) (N := some 142) #[true, true, true, true, true, true, true, true, true, true, true, true, false, false] rfl rfl (one_of HT_.out (by kernel_rfl)) (by decide) (fun K hK => ?_)
                                      refine goes_ Try.func42 (by kernel_rfl) rfl #[.agg #[.int .i64 ((rd_T30 x8_1 (ji44)).f0.f0), .int .i64 ((rd_T30 x8_1 (ji44)).f0.f1)], .agg #[.int .i64 (wrap64 (t319)), .int .i64 (wrap64 (t323))]] (by rfl) rfl rfl (by (try simp only [List.map_toArray, List.map_cons, List.map_nil]); first | done | (simp only [hji44]; rfl) | rfl | (simp only [List.length_drop, List.length_take]; rfl)) ?_
                                      with_reducible refine (bonsairef02_Before.calls ((rd_T30 x8_1 (ji44)).f0.f0) ((rd_T30 x8_1 (ji44)).f0.f1) (wrap64 (t319)) (wrap64 (t323)) false _ A47.out).mono ?_
                                      rintro e w67 ⟨rfl, hb⟩
                                      have HS6_ := (hb.cell (World.block_lt_of_cell? _ _ (hHeld.2.2.2.2.2.2.1))).trans (hHeld.2.2.2.2.2.2.1)
                                      have HS7_ := (hb.cell (World.block_lt_of_cell? _ _ (hHeld.2.2.2.2.2.2.2.1))).trans (hHeld.2.2.2.2.2.2.2.1)
                                      have HS8_ := (hb.cell (World.block_lt_of_cell? _ _ (hHeld.2.2.2.2.2.2.2.2.1))).trans (hHeld.2.2.2.2.2.2.2.2.1)
                                      have HS9_ := (hb.cell (World.block_lt_of_cell? _ _ (hHeld.2.2.2.2.2.2.2.2.2.1))).trans (hHeld.2.2.2.2.2.2.2.2.2.1)
                                      have HS10_ := (hb.cell (World.block_lt_of_cell? _ _ (hHeld.2.2.2.2.2.2.2.2.2.2.1))).trans (hHeld.2.2.2.2.2.2.2.2.2.2.1)
                                      have HS11_ := (hb.cell (World.block_lt_of_cell? _ _ (hHeld.2.2.2.2.2.2.2.2.2.2.2))).trans (hHeld.2.2.2.2.2.2.2.2.2.2.2)
                                      refine ⟨_, rfl, ?_⟩
                                      have n0_ := Aside0.mk (Kd.R_below (by (with_reducible repeat (first | apply Kd.R_alloc | apply Kd.R_drewN | apply Kd.R_drew)); exact HO_8.out) hb)
                                      have n1_ := Aside0.mk (IsS68.below (by repeat (first | (with_reducible first | exact HI310.out | apply IsS68.alloc | apply IsS68.drewN | apply IsS68.drew | apply IsS68.set_0 | apply IsS68.set_1 | apply IsS68.set_2 | refine IsS68.far ?_ NB310_345.out _) | exact HI310.out)) hb)
                                      have n2_ := Aside0.mk (blk_below (g := gb345) (o := .cells #[.int .i64 (wrap64 (t319)), .int .i64 (wrap64 (t323)), .int .i64 (wrap64 (t327)), .int .i64 (wrap64 (t331)), .string t335, .float .f64 bv344] 30 (0, 0)) (by (with_reducible repeat (first | refine blk_drewN ?_ _ | refine blk_drew ?_ | refine blk_alloc ?_ _)); exact BK345.out) hb)
                                      have n3_ := Aside0.mk (below_step (by repeat (first | (with_reducible first | exact HB.out | apply below_alloc | apply pw_below_drewN | apply below_drew1 | refine below_set ?_ (IsS68.ge HI310.out) | refine below_set ?_ GE345.out) | exact HB.out)) hb)
                                      clear HO_8
                                      clear HI310
                                      clear BK345
                                      clear HB
                                      have HO_8 := n0_
                                      have HI310 := n1_
                                      have BK345 := n2_
                                      have HB := n3_
                                      clear n0_ n1_ n2_ n3_
                                      (try clear hb)
                                      (try clear hb2)
                                      (try clear hk)
                                      (try clear hi)
                                      refine hK.out _ _ ⟨(blk_cell BK345.out 0).trans rfl, (blk_cell BK345.out 1).trans rfl, (blk_cell BK345.out 2).trans rfl, (blk_cell BK345.out 3).trans rfl, (blk_cell BK345.out 4).trans rfl, (blk_cell BK345.out 5).trans rfl, HS6_, HS7_, HS8_, HS9_, HS10_, HS11_⟩ (fun hHeld => ?_)
                                      clear hK K
                                      refine norm_ (a' := ?_) ?_ ?_
                                      rotate_left
                                      · show Act.put _ (some 142) _ = _
                                        simp only [Act.put, List.setIfInBounds_toArray, List.set_cons_zero, List.set_cons_succ, i64_w, i32_w]
                                        rfl
                                      refine pure_ (i := 12) (N := some 143) (v := ?_) (a' := ?_) #[true, true, true, true, true, true, true, true, true, true, true, true, true, false] rfl rfl (any_of HT_.out (by kernel_rfl)) (fun _ _ _ h => h) (Or.inl ⟨by rfl, ?_⟩) ?_ ?_
                                      rotate_left
                                      · intro w'
                                        go_simp
                                        with_reducible rfl
                                      rotate_left
                                      · simp only [Act.put, List.setIfInBounds_toArray, List.set_cons_zero, List.set_cons_succ, i64_w, i32_w]
                                        rfl
                                      refine pure_ (i := 13) (N := some 144) (v := ?_) (a' := ?_) #[true, true, true, true, true, true, true, true, true, true, true, true, true, true] rfl rfl (any_of HT_.out (by kernel_rfl)) (fun _ _ _ h => h) (Or.inl ⟨by rfl, ?_⟩) ?_ ?_
                                      rotate_left
                                      · intro w'
                                        go_simp
                                        with_reducible rfl
                                      rotate_left
                                      · simp only [Act.put, List.setIfInBounds_toArray, List.set_cons_zero, List.set_cons_succ, i64_w, i32_w]
                                        rfl
                                      refine done_ (done_of HT_.out (by kernel_rfl)) ?_
                                      try go_wp2
                                      go_ret2
                                      (try simp only [hji44])
                                      exact ⟨_, by first | rfl | (simp [errW_none, errW_some] <;> rfl) | (simp only [← hji44]; first | rfl | (simp [errW_none, errW_some] <;> rfl)) | (simp [*, errW_none, errW_some] <;> rfl), by first | exact Kd.R_nil _ _ _ _ _ | exact Kd.N_nil _ _ _ _ _ | exact Kd.V_nil _ _ _ _ _ | exact Kd.Q_nil _ _ _ _ _ | exact Kd.S_nil _ _ _ _ _, by repeat (first | (with_reducible first | exact HB.out | apply below_alloc | apply pw_below_drewN | apply below_drew1 | refine below_set ?_ (IsS68.ge HI310.out) | refine below_set ?_ GE345.out) | exact HB.out)⟩
                                  · rw [if_neg c46] at H
                                    exact absurd H (by simp)
                                · rw [if_neg c45] at H
                                  exact absurd H (by simp)
                              · rw [if_neg c43] at H
                                have c43b0 : decide (0 < x9_1) = false := decide_eq_false c43
                                clear c43
                                by_cases c68 : x8_1.length < 2513169434916
                                · rw [if_pos c68] at H
                                  have LMc68 := Aside0.mk c68
                                  clear c68
                                  obtain ⟨y352, hy352⟩ : ∃ y_ : List (S30), y_ = (x8_1 ++ [(⟨(⟨wrap64 (t319), wrap64 (t323)⟩ : S27), wrap64 (t327), wrap64 (t331), t335, t343⟩ : S30)]) := ⟨_, rfl⟩
                                  replace H : (bonsairef21_Decode.l0 kj23 a0 t311 y352 (wrap64 (x9_1 + 1)) t339 t340 t341) = some (r1, r2) := by first | (rw [hy352]; with_reducible exact H) | (have H2_ := (Option.bind_some _ _).symm.trans H; rw [hy352]; with_reducible exact H2_) | (have H2_ := (Option.bind_some _ _).symm.trans H; with_reducible exact H2_) | with_reducible exact H | (rw [hy352]; exact H) | exact H
                                  have Ny352 := Aside0.mk hy352
                                  clear hy352
                                  have H' := Aside0.mk H
                                  clear H
                                  try go_wp2_with (first | ((with_reducible refine gate_callee (f := 40) rfl ?_); refine goesL_ (some 126) rfl rfl Try.func40 (by kernel_rfl) rfl #[.int .u64 t338] rfl (by (try simp only [List.map_toArray, List.map_cons, List.map_nil]); first | done | rfl | (simp only [List.length_drop, List.length_take]; rfl)) ?_; (with_reducible refine (bonsairef01_Float.calls t338 t343 _ A40.out).mono ?_); rintro e w69 ⟨bv344, rfl, bq344, hb⟩; refine ⟨_, rfl, ?_⟩; have n0_ := Aside0.mk (Kd.R_below (by (with_reducible repeat (first | apply Kd.R_alloc | apply Kd.R_drewN | apply Kd.R_drew)); exact HO_8.out) hb); have n1_ := Aside0.mk (IsS68.below (by repeat (first | (with_reducible first | exact HI310.out | apply IsS68.alloc | apply IsS68.drewN | apply IsS68.drew | apply IsS68.set_0 | apply IsS68.set_1 | apply IsS68.set_2) | exact HI310.out)) hb); have n2_ := Aside0.mk (below_step (by repeat (first | (with_reducible first | exact HB.out | apply below_alloc | apply pw_below_drewN | apply below_drew1 | refine below_set ?_ (IsS68.ge HI310.out)) | exact HB.out)) hb); clear HO_8; clear HI310; clear HB; have HO_8 := n0_; have HI310 := n1_; have HB := n2_; clear n0_ n1_ n2_; (try clear hb); (try clear hb2); (try clear hk); (try clear hi)) | ((with_reducible refine gate_dst (N := 18) rfl ?_); refine box_event ?hg (N := 18) ?hd (cs := #[.int .i64 0, .int .i64 0, .int .i64 0, .int .i64 0, .string (⟨#[]⟩ : ByteArray), .float .f64 0]) (t := 30) ?hr ?_; (case hd => rfl); (case hg => rfl); (case hr => first | (go_simp; done) | (go_simp; rfl)); intro gb345 hg w70 hbox hb; have n0_ := Aside0.mk (Kd.R_below (Kd.R_elderB (by (with_reducible repeat (first | apply Kd.R_alloc | apply Kd.R_drewN | apply Kd.R_drew)); exact HO_8.out) gb345 (Nat.le_of_eq hg.symm)) hb); have n1_ := Aside0.mk (IsS68.below (by repeat (first | (with_reducible first | exact HI310.out | apply IsS68.alloc | apply IsS68.drewN | apply IsS68.drew | apply IsS68.set_0 | apply IsS68.set_1 | apply IsS68.set_2) | exact HI310.out)) hb); have n2_ := Aside0.mk (below_step (by repeat (first | (with_reducible first | exact HB.out | apply below_alloc | apply pw_below_drewN | apply below_drew1 | refine below_set ?_ (IsS68.ge HI310.out)) | exact HB.out)) hb); have n3_ := Aside0.mk (hbox); have n4_ := Aside0.mk ((by rw [hg]; exact (below_size (by repeat (first | (with_reducible first | exact HB.out | apply below_alloc | apply pw_below_drewN | apply below_drew1 | refine below_set ?_ (IsS68.ge HI310.out)) | exact HB.out))) : w.heap.size ≤ gb345)); have n5_ := Aside0.mk ((by rw [hg]; exact (below_size (by repeat (first | (with_reducible first | exact HB.out | apply below_alloc | apply pw_below_drewN | apply below_drew1 | refine below_set ?_ (IsS68.ge HI310.out)) | exact HB.out))) : w.heap.size ≤ gb345)); have n6_ := Aside0.mk ((by rw [hg]; exact Nat.ne_of_lt (IsS68.lt (show IsS68 w _ gb310 t339 t340 t341 from by repeat (first | (with_reducible first | exact HI310.out | apply IsS68.alloc | apply IsS68.drewN | apply IsS68.drew | apply IsS68.set_0 | apply IsS68.set_1 | apply IsS68.set_2) | exact HI310.out))) : gb310 ≠ gb345)); have n7_ := Aside0.mk ((by rw [hg]; exact Nat.ne_of_gt (IsS68.lt (show IsS68 w _ gb310 t339 t340 t341 from by repeat (first | (with_reducible first | exact HI310.out | apply IsS68.alloc | apply IsS68.drewN | apply IsS68.drew | apply IsS68.set_0 | apply IsS68.set_1 | apply IsS68.set_2) | exact HI310.out))) : gb345 ≠ gb310)); clear HO_8; clear HI310; clear HB; have HO_8 := n0_; have HI310 := n1_; have HB := n2_; have BK345 := n3_; have GW345 := n4_; have GE345 := n5_; have NB310_345 := n6_; have NB345_310 := n7_; clear n0_ n1_ n2_ n3_ n4_ n5_ n6_ n7_; clear hb hbox hg; have hnb71 := NB345_310.out; have hnc71 := NB310_345.out; have hcz72_0 : w70.cell? ⟨gb345, 0, none⟩ = some (.int .i64 0) := (blk_cell BK345.out 0).trans rfl; have hcz72_1 : w70.cell? ⟨gb345, 1, none⟩ = some (.int .i64 0) := (blk_cell BK345.out 1).trans rfl; have hcz72_2 : w70.cell? ⟨gb345, 2, none⟩ = some (.int .i64 0) := (blk_cell BK345.out 2).trans rfl; have hcz72_3 : w70.cell? ⟨gb345, 3, none⟩ = some (.int .i64 0) := (blk_cell BK345.out 3).trans rfl; have hcz72_4 : w70.cell? ⟨gb345, 4, none⟩ = some (.string (⟨#[]⟩ : ByteArray)) := (blk_cell BK345.out 4).trans rfl; have hcz72_5 : w70.cell? ⟨gb345, 5, none⟩ = some (.float .f64 0) := (blk_cell BK345.out 5).trans rfl; have hfz72_0 := blk_frozen BK345.out 0; have hfz72_1 := blk_frozen BK345.out 1; have hfz72_2 := blk_frozen BK345.out 2; have hfz72_3 := blk_frozen BK345.out 3; have hfz72_4 := blk_frozen BK345.out 4; have hfz72_5 := blk_frozen BK345.out 5) | ((with_reducible refine gate_callee (f := 41) rfl ?_); refine goesL_ (some 129) rfl rfl Try.func41 (by kernel_rfl) rfl #[.agg #[.int .i64 (wrap64 (t319)), .int .i64 (wrap64 (t323)), .int .i64 (wrap64 (t327)), .int .i64 (wrap64 (t331)), .string t335, .float .f64 bv344]] rfl (by (try simp only [List.map_toArray, List.map_cons, List.map_nil]); first | done | rfl | (simp only [List.length_drop, List.length_take]; rfl)) ?_; (with_reducible refine (bonsairef13_One.calls kj23 (wrap64 (t319)) (wrap64 (t323)) (wrap64 (t327)) (wrap64 (t331)) t335 _ t343 true _ ?side1 A41.out).mono ?_); (case side1 => exact (by first | assumption | exact FB_lit _ _ rfl | exact FB_int _ | simpa using (by assumption))); rintro e w73 ⟨rfl, hb⟩; refine ⟨_, rfl, ?_⟩; have n0_ := Aside0.mk (Kd.R_below (by (with_reducible repeat (first | apply Kd.R_alloc | apply Kd.R_drewN | apply Kd.R_drew)); exact (Kd.R_mono (Kd.R_far (p := ⟨gb345, 5, none⟩) (Kd.R_far (p := ⟨gb345, 4, none⟩) (Kd.R_far (p := ⟨gb345, 3, none⟩) (Kd.R_far (p := ⟨gb345, 2, none⟩) (Kd.R_far (p := ⟨gb345, 1, none⟩) (Kd.R_far (p := ⟨gb345, 0, none⟩) (Kd.R_mono HO_8.out (fun k_ hk => (⟨hk, hk.2⟩ : _ ∧ k_ ≠ gb345))) (fun _ hk => hk.2) (.int .i64 (wrap64 (t319)))) (fun _ hk => hk.2) (.int .i64 (wrap64 (t323)))) (fun _ hk => hk.2) (.int .i64 (wrap64 (t327)))) (fun _ hk => hk.2) (.int .i64 (wrap64 (t331)))) (fun _ hk => hk.2) (.string t335)) (fun _ hk => hk.2) (.float .f64 bv344)) (fun _ h_ => h_.1))) hb); have n1_ := Aside0.mk (IsS68.below (show IsS68 w ((((((w70.setCell ⟨gb345, 0, none⟩ (.int .i64 (wrap64 (t319)))).setCell ⟨gb345, 1, none⟩ (.int .i64 (wrap64 (t323)))).setCell ⟨gb345, 2, none⟩ (.int .i64 (wrap64 (t327)))).setCell ⟨gb345, 3, none⟩ (.int .i64 (wrap64 (t331)))).setCell ⟨gb345, 4, none⟩ (.string t335)).setCell ⟨gb345, 5, none⟩ (.float .f64 bv344)) gb310 t339 t340 t341 from by repeat (first | (with_reducible first | exact HI310.out | apply IsS68.alloc | apply IsS68.drewN | apply IsS68.drew | apply IsS68.set_0 | apply IsS68.set_1 | apply IsS68.set_2 | refine IsS68.far ?_ NB310_345.out _) | exact HI310.out)) hb); have n2_ := Aside0.mk (blk_below (g := gb345) (o := .cells #[.int .i64 (wrap64 (t319)), .int .i64 (wrap64 (t323)), .int .i64 (wrap64 (t327)), .int .i64 (wrap64 (t331)), .string t335, .float .f64 bv344] 30 (0, 0)) (by (with_reducible repeat (first | refine blk_drewN ?_ _ | refine blk_drew ?_ | refine blk_alloc ?_ _)); refine blk_put (cs := #[.int .i64 (wrap64 (t319)), .int .i64 (wrap64 (t323)), .int .i64 (wrap64 (t327)), .int .i64 (wrap64 (t331)), .string t335, .float .f64 0]) ?_ 5 _ rfl; (with_reducible repeat (first | refine blk_drewN ?_ _ | refine blk_drew ?_ | refine blk_alloc ?_ _)); refine blk_put (cs := #[.int .i64 (wrap64 (t319)), .int .i64 (wrap64 (t323)), .int .i64 (wrap64 (t327)), .int .i64 (wrap64 (t331)), .string (⟨#[]⟩ : ByteArray), .float .f64 0]) ?_ 4 _ rfl; (with_reducible repeat (first | refine blk_drewN ?_ _ | refine blk_drew ?_ | refine blk_alloc ?_ _)); refine blk_put (cs := #[.int .i64 (wrap64 (t319)), .int .i64 (wrap64 (t323)), .int .i64 (wrap64 (t327)), .int .i64 0, .string (⟨#[]⟩ : ByteArray), .float .f64 0]) ?_ 3 _ rfl; (with_reducible repeat (first | refine blk_drewN ?_ _ | refine blk_drew ?_ | refine blk_alloc ?_ _)); refine blk_put (cs := #[.int .i64 (wrap64 (t319)), .int .i64 (wrap64 (t323)), .int .i64 0, .int .i64 0, .string (⟨#[]⟩ : ByteArray), .float .f64 0]) ?_ 2 _ rfl; (with_reducible repeat (first | refine blk_drewN ?_ _ | refine blk_drew ?_ | refine blk_alloc ?_ _)); refine blk_put (cs := #[.int .i64 (wrap64 (t319)), .int .i64 0, .int .i64 0, .int .i64 0, .string (⟨#[]⟩ : ByteArray), .float .f64 0]) ?_ 1 _ rfl; (with_reducible repeat (first | refine blk_drewN ?_ _ | refine blk_drew ?_ | refine blk_alloc ?_ _)); refine blk_put (cs := #[.int .i64 0, .int .i64 0, .int .i64 0, .int .i64 0, .string (⟨#[]⟩ : ByteArray), .float .f64 0]) ?_ 0 _ rfl; (with_reducible repeat (first | refine blk_drewN ?_ _ | refine blk_drew ?_ | refine blk_alloc ?_ _)); exact BK345.out) hb); have n3_ := Aside0.mk (below_step (by repeat (first | (with_reducible first | exact HB.out | apply below_alloc | apply pw_below_drewN | apply below_drew1 | refine below_set ?_ (IsS68.ge HI310.out) | refine below_set ?_ GE345.out) | exact HB.out)) hb); clear HO_8; clear HI310; clear BK345; clear HB; have HO_8 := n0_; have HI310 := n1_; have BK345 := n2_; have HB := n3_; clear n0_ n1_ n2_ n3_; (try clear hb); (try clear hb2); (try clear hk); (try clear hi)))
                                  have n0_ := Aside0.mk (Kd.R_drew HO_8.out)
                                  have n1_ := Aside0.mk (blk_drew BK345.out)
                                  have n2_ := Aside0.mk (IsS68.drew HI310.out)
                                  have n3_ := Aside0.mk (below_drew1 HB.out)
                                  clear HO_8
                                  clear BK345
                                  clear HI310
                                  clear HB
                                  have HO_8 := n0_
                                  have BK345 := n1_
                                  have HI310 := n2_
                                  have HB := n3_
                                  clear n0_ n1_ n2_ n3_
                                  refine start_ (n := 14) (S := fun w' => True) (ds := []) #[false, false, false, false, false, false, false, false, false, false, false, false, false, false] (by kernel_rfl) rfl rfl trivial (fun hHeld => ?_); refine with_tabW bonsairef21_Decode.tab34 bonsairef21_Decode.bits34 (fun HT_ HW_ => ?_)
                                  generalize w73.drew = w74 at HO_8 BK345 HI310 HB hHeld ⊢
                                  refine pure_ (i := 0) (N := some 131) (v := ?_) (a' := ?_) #[true, false, false, false, false, false, false, false, false, false, false, false, false, false] rfl rfl (any_of HT_.out (by kernel_rfl)) (fun _ _ _ h => h) (Or.inl ⟨by rfl, ?_⟩) ?_ ?_
                                  rotate_left
                                  · intro w'
                                    go_simp
                                    with_reducible rfl
                                  rotate_left
                                  · simp only [Act.put, List.setIfInBounds_toArray, List.set_cons_zero, List.set_cons_succ, i64_w, i32_w]
                                    rfl
                                  refine pure_ (i := 1) (N := some 132) (v := ?_) (a' := ?_) #[true, true, false, false, false, false, false, false, false, false, false, false, false, false] rfl rfl (any_of HT_.out (by kernel_rfl)) (fun _ _ _ h => h) (Or.inl ⟨by rfl, ?_⟩) ?_ ?_
                                  rotate_left
                                  · intro w'
                                    go_simp
                                    with_reducible rfl
                                  rotate_left
                                  · simp only [Act.put, List.setIfInBounds_toArray, List.set_cons_zero, List.set_cons_succ, i64_w, i32_w]
                                    rfl
                                  refine pure_ (i := 2) (N := some 133) (v := ?_) (a' := ?_) #[true, true, true, false, false, false, false, false, false, false, false, false, false, false] rfl rfl (any_of HT_.out (by kernel_rfl)) (fun _ _ _ h => h) (Or.inl ⟨by rfl, ?_⟩) ?_ ?_
                                  rotate_left
                                  · intro w'
                                    go_simp
                                    with_reducible rfl
                                  rotate_left
                                  · simp only [Act.put, List.setIfInBounds_toArray, List.set_cons_zero, List.set_cons_succ, i64_w, i32_w]
                                    rfl
                                  refine pure_ (i := 3) (N := some 134) (v := undef) (a' := ?_) #[true, true, true, true, false, false, false, false, false, false, false, false, false, false] rfl rfl (any_of HT_.out (by kernel_rfl)) (fun _ _ _ h => h) (Or.inr ⟨by rfl, rfl⟩) ?_ ?_
                                  rotate_left
                                  · simp only [Act.put, List.setIfInBounds_toArray, List.set_cons_zero, List.set_cons_succ, i64_w, i32_w]
                                    rfl
                                  refine pure_ (i := 4) (N := some 135) (v := undef) (a' := ?_) #[true, true, true, true, true, false, false, false, false, false, false, false, false, false] rfl rfl (any_of HT_.out (by kernel_rfl)) (fun _ _ _ h => h) (Or.inr ⟨by rfl, rfl⟩) ?_ ?_
                                  rotate_left
                                  · simp only [Act.put, List.setIfInBounds_toArray, List.set_cons_zero, List.set_cons_succ, i64_w, i32_w]
                                    rfl
                                  refine pure_ (i := 5) (N := some 136) (v := undef) (a' := ?_) #[true, true, true, true, true, true, false, false, false, false, false, false, false, false] rfl rfl (any_of HT_.out (by kernel_rfl)) (fun _ _ _ h => h) (Or.inr ⟨by rfl, rfl⟩) ?_ ?_
                                  rotate_left
                                  · simp only [Act.put, List.setIfInBounds_toArray, List.set_cons_zero, List.set_cons_succ, i64_w, i32_w]
                                    rfl
                                  refine pure_ (i := 6) (N := some 137) (v := undef) (a' := ?_) #[true, true, true, true, true, true, true, false, false, false, false, false, false, false] rfl rfl (any_of HT_.out (by kernel_rfl)) (fun _ _ _ h => h) (Or.inr ⟨by rfl, rfl⟩) ?_ ?_
                                  rotate_left
                                  · simp only [Act.put, List.setIfInBounds_toArray, List.set_cons_zero, List.set_cons_succ, i64_w, i32_w]
                                    rfl
                                  refine pure_ (i := 7) (N := some 138) (v := undef) (a' := ?_) #[true, true, true, true, true, true, true, true, false, false, false, false, false, false] rfl rfl (any_of HT_.out (by kernel_rfl)) (fun _ _ _ h => h) (Or.inr ⟨by rfl, rfl⟩) ?_ ?_
                                  rotate_left
                                  · simp only [Act.put, List.setIfInBounds_toArray, List.set_cons_zero, List.set_cons_succ, i64_w, i32_w]
                                    rfl
                                  refine pure_ (i := 8) (N := some 139) (v := undef) (a' := ?_) #[true, true, true, true, true, true, true, true, true, false, false, false, false, false] rfl rfl (any_of HT_.out (by kernel_rfl)) (fun _ _ _ h => h) (Or.inr ⟨by rfl, rfl⟩) ?_ ?_
                                  rotate_left
                                  · simp only [Act.put, List.setIfInBounds_toArray, List.set_cons_zero, List.set_cons_succ, i64_w, i32_w]
                                    rfl
                                  refine pure_ (i := 9) (N := some 140) (v := undef) (a' := ?_) #[true, true, true, true, true, true, true, true, true, true, false, false, false, false] rfl rfl (any_of HT_.out (by kernel_rfl)) (fun _ _ _ h => h) (Or.inr ⟨by rfl, rfl⟩) ?_ ?_
                                  rotate_left
                                  · simp only [Act.put, List.setIfInBounds_toArray, List.set_cons_zero, List.set_cons_succ, i64_w, i32_w]
                                    rfl
                                  refine pure_ (i := 10) (N := some 141) (v := undef) (a' := ?_) #[true, true, true, true, true, true, true, true, true, true, true, false, false, false] rfl rfl (any_of HT_.out (by kernel_rfl)) (fun _ _ _ h => h) (Or.inr ⟨by rfl, rfl⟩) ?_ ?_
                                  rotate_left
                                  · simp only [Act.put, List.setIfInBounds_toArray, List.set_cons_zero, List.set_cons_succ, i64_w, i32_w]
                                    rfl
                                  refine pure_ (i := 11) (N := some 142) (v := undef) (a' := ?_) #[true, true, true, true, true, true, true, true, true, true, true, true, false, false] rfl rfl (any_of HT_.out (by kernel_rfl)) (fun _ _ _ h => h) (Or.inr ⟨by rfl, rfl⟩) ?_ ?_
                                  rotate_left
                                  · simp only [Act.put, List.setIfInBounds_toArray, List.set_cons_zero, List.set_cons_succ, i64_w, i32_w]
                                    rfl
                                  refine pure_ (i := 12) (N := some 143) (v := undef) (a' := ?_) #[true, true, true, true, true, true, true, true, true, true, true, true, true, false] rfl rfl (any_of HT_.out (by kernel_rfl)) (fun _ _ _ h => h) (Or.inr ⟨by rfl, rfl⟩) ?_ ?_
                                  rotate_left
                                  · simp only [Act.put, List.setIfInBounds_toArray, List.set_cons_zero, List.set_cons_succ, i64_w, i32_w]
                                    rfl
                                  refine pure_ (i := 13) (N := some 144) (v := ?_) (a' := ?_) #[true, true, true, true, true, true, true, true, true, true, true, true, true, true] rfl rfl (any_of HT_.out (by kernel_rfl)) (fun _ _ _ h => h) (Or.inl ⟨by rfl, ?_⟩) ?_ ?_
                                  rotate_left
                                  · intro w'
                                    go_simp
                                    with_reducible rfl
                                  rotate_left
                                  · simp only [Act.put, List.setIfInBounds_toArray, List.set_cons_zero, List.set_cons_succ, i64_w, i32_w]
                                    rfl
                                  refine done_ (done_of HT_.out (by kernel_rfl)) ?_
                                  have hcz75_0 : w74.cell? ⟨gb345, 0, none⟩ = some (.int .i64 (wrap64 (t319))) := (blk_cell BK345.out 0).trans rfl
                                  have hcz75_1 : w74.cell? ⟨gb345, 1, none⟩ = some (.int .i64 (wrap64 (t323))) := (blk_cell BK345.out 1).trans rfl
                                  have hcz75_2 : w74.cell? ⟨gb345, 2, none⟩ = some (.int .i64 (wrap64 (t327))) := (blk_cell BK345.out 2).trans rfl
                                  have hcz75_3 : w74.cell? ⟨gb345, 3, none⟩ = some (.int .i64 (wrap64 (t331))) := (blk_cell BK345.out 3).trans rfl
                                  have hcz75_4 : w74.cell? ⟨gb345, 4, none⟩ = some (.string t335) := (blk_cell BK345.out 4).trans rfl
                                  have hcz75_5 : w74.cell? ⟨gb345, 5, none⟩ = some (.float .f64 bv344) := (blk_cell BK345.out 5).trans rfl
                                  have hfz75_0 := blk_frozen BK345.out 0
                                  have hfz75_1 := blk_frozen BK345.out 1
                                  have hfz75_2 := blk_frozen BK345.out 2
                                  have hfz75_3 := blk_frozen BK345.out 3
                                  have hfz75_4 := blk_frozen BK345.out 4
                                  have hfz75_5 := blk_frozen BK345.out 5
                                  try go_wp2_with (first | ((with_reducible refine gate_builtin (b := .append) (xs := #[.tmp 145, .tmp 147]) rfl ?_); at_builtin; refine Kd.R_append k30 (w0 := w) w.heap.size rfl (.tmp 145) (.tmp 147) 22 30 (.agg #[(.int .i64 0), (.int .i64 0), (.int .i64 0), (.int .i64 0), (.string ⟨#[]⟩), (.float .f64 0)]) 56 rfl Try.underlying22 info30 rfl (by decide) (by omega) u8 x8_1 (⟨(⟨wrap64 (t319), wrap64 (t323)⟩ : S27), wrap64 (t327), wrap64 (t331), t335, t343⟩ : S30) [.int .i64 (wrap64 (t319)), .int .i64 (wrap64 (t323)), .int .i64 (wrap64 (t327)), .int .i64 (wrap64 (t331)), .string t335, .float .f64 bv344] (fun k_ => k_ ≠ gb345) (fun _ => False) rfl rfl ?aP (fun _ hk => hk.elim) ?aF ?aO ?aB ?aS ?aL ?_; (case aP => exact k30_mkM _ _ _ (⟨(⟨wrap64 (t319), wrap64 (t323)⟩ : S27), wrap64 (t327), wrap64 (t331), t335, t343⟩ : S30) (by first | assumption | exact FB_lit _ _ rfl | exact FB_int _ | simpa using (by assumption))); (case aB => exact (by repeat (first | (with_reducible first | exact HB.out | apply below_alloc | apply pw_below_drewN | apply below_drew1 | refine below_set ?_ (IsS68.ge HI310.out) | refine below_set ?_ GE345.out) | exact HB.out))); (case aF => exact (fun k_ hk => Kd.freshB (g := gb345) (o := .cells #[.int .i64 (wrap64 (t319)), .int .i64 (wrap64 (t323)), .int .i64 (wrap64 (t327)), .int .i64 (wrap64 (t331)), .string t335, .float .f64 bv344] 30 (0, 0)) (by (with_reducible repeat (first | refine blk_drewN ?_ _ | refine blk_drew ?_ | refine blk_alloc ?_ _)); exact BK345.out) k_ hk)); (case aO => exact (by (with_reducible repeat (first | apply Kd.R_alloc | apply Kd.R_drewN | apply Kd.R_drew)); exact Kd.R_mono HO_8.out (fun _ hk => hk.2))); (case aS => exact (below_size (by repeat (first | (with_reducible first | exact HB.out | apply below_alloc | apply pw_below_drewN | apply below_drew1 | refine below_set ?_ (IsS68.ge HI310.out) | refine below_set ?_ GE345.out) | exact HB.out)))); (case aL => have := LMc68.out; omega); intro v353 w76 ho hb hg hat; rw [← Ny352.out] at ho; have n0_ := Aside0.mk (IsS68.grown (by repeat (first | (with_reducible first | exact HI310.out | apply IsS68.alloc | apply IsS68.drewN | apply IsS68.drew | apply IsS68.set_0 | apply IsS68.set_1 | apply IsS68.set_2 | refine IsS68.far ?_ NB310_345.out _) | exact HI310.out)) hg (IsS68.own_ne HI310.out HO_8.out (by decide))); have n1_ := Aside0.mk (blk_grown (g := gb345) (o := .cells #[.int .i64 (wrap64 (t319)), .int .i64 (wrap64 (t323)), .int .i64 (wrap64 (t327)), .int .i64 (wrap64 (t331)), .string t335, .float .f64 bv344] 30 (0, 0)) (by (with_reducible repeat (first | refine blk_drewN ?_ _ | refine blk_drew ?_ | refine blk_alloc ?_ _)); exact BK345.out) hg (Kd.R_away HO_8.out (fun _ hk => hk.2))); have n2_ := Aside0.mk (hb); have n3_ := Aside0.mk (ho); clear HI310; clear BK345; clear HB; clear HO_8; have HI310 := n0_; have BK345 := n1_; have HB := n2_; have HO354 := n3_; clear n0_ n1_ n2_ n3_; clear ho hb hg hat))
                                  go_roundg kj23
                                  case measure => have := HK1.out; have := HJ23.out; omega
                                  case rel => exact ⟨(y352), (wrap64 (x9_1 + 1)), (t339), (t340), (t341), (by first | rfl | (simp; done) | (simp [*]; done)), H', ⟨by have := HK1.out; have := HJ23.out; omega⟩, ⟨by (with_reducible repeat (first | apply Kd.R_alloc | apply Kd.R_drewN | apply Kd.R_drew)); exact Kd.R_mono HO354.out (fun _ hk => trivial)⟩, ⟨by repeat (first | (with_reducible first | exact HI310.out | apply IsS68.alloc | apply IsS68.drewN | apply IsS68.drew | apply IsS68.set_0 | apply IsS68.set_1 | apply IsS68.set_2 | refine IsS68.far ?_ NB310_345.out _) | exact HI310.out)⟩, ⟨by repeat (first | (with_reducible first | exact HB.out | apply below_alloc | apply pw_below_drewN | apply below_drew1 | refine below_set ?_ (IsS68.ge HI310.out) | refine below_set ?_ GE345.out) | exact HB.out)⟩⟩
                                · rw [if_neg c68] at H
                                  exact absurd H (by simp)
                            · replace c42 := Bool.eq_false_iff.mpr c42
                              subst c42
                              have H1 : (some (([] : List (S30)), 5)) = some (r1, r2) := by rw [if_neg (show ¬ (false = true) by decide)] at H; exact H
                              clear H
                              have H := H1
                              clear H1
                              simp only [Option.some.injEq, Prod.mk.injEq] at H
                              obtain ⟨rfl, rfl⟩ := H
                              go_wp2_with (first | ((with_reducible refine gate_callee (f := 40) rfl ?_); refine goesL_ (some 126) rfl rfl Try.func40 (by kernel_rfl) rfl #[.int .u64 t338] rfl (by (try simp only [List.map_toArray, List.map_cons, List.map_nil]); first | done | rfl | (simp only [List.length_drop, List.length_take]; rfl)) ?_; (with_reducible refine (bonsairef01_Float.calls t338 t343 _ A40.out).mono ?_); rintro e w77 ⟨bv344, rfl, bq344, hb⟩; refine ⟨_, rfl, ?_⟩; have n0_ := Aside0.mk (Kd.R_below (by (with_reducible repeat (first | apply Kd.R_alloc | apply Kd.R_drewN | apply Kd.R_drew)); exact HO_8.out) hb); have n1_ := Aside0.mk (IsS68.below (by repeat (first | (with_reducible first | exact HI310.out | apply IsS68.alloc | apply IsS68.drewN | apply IsS68.drew | apply IsS68.set_0 | apply IsS68.set_1 | apply IsS68.set_2) | exact HI310.out)) hb); have n2_ := Aside0.mk (below_step (by repeat (first | (with_reducible first | exact HB.out | apply below_alloc | apply pw_below_drewN | apply below_drew1 | refine below_set ?_ (IsS68.ge HI310.out)) | exact HB.out)) hb); clear HO_8; clear HI310; clear HB; have HO_8 := n0_; have HI310 := n1_; have HB := n2_; clear n0_ n1_ n2_; (try clear hb); (try clear hb2); (try clear hk); (try clear hi)) | ((with_reducible refine gate_dst (N := 18) rfl ?_); refine box_event ?hg (N := 18) ?hd (cs := #[.int .i64 0, .int .i64 0, .int .i64 0, .int .i64 0, .string (⟨#[]⟩ : ByteArray), .float .f64 0]) (t := 30) ?hr ?_; (case hd => rfl); (case hg => rfl); (case hr => first | (go_simp; done) | (go_simp; rfl)); intro gb345 hg w78 hbox hb; have n0_ := Aside0.mk (Kd.R_below (Kd.R_elderB (by (with_reducible repeat (first | apply Kd.R_alloc | apply Kd.R_drewN | apply Kd.R_drew)); exact HO_8.out) gb345 (Nat.le_of_eq hg.symm)) hb); have n1_ := Aside0.mk (IsS68.below (by repeat (first | (with_reducible first | exact HI310.out | apply IsS68.alloc | apply IsS68.drewN | apply IsS68.drew | apply IsS68.set_0 | apply IsS68.set_1 | apply IsS68.set_2) | exact HI310.out)) hb); have n2_ := Aside0.mk (below_step (by repeat (first | (with_reducible first | exact HB.out | apply below_alloc | apply pw_below_drewN | apply below_drew1 | refine below_set ?_ (IsS68.ge HI310.out)) | exact HB.out)) hb); have n3_ := Aside0.mk (hbox); have n4_ := Aside0.mk ((by rw [hg]; exact (below_size (by repeat (first | (with_reducible first | exact HB.out | apply below_alloc | apply pw_below_drewN | apply below_drew1 | refine below_set ?_ (IsS68.ge HI310.out)) | exact HB.out))) : w.heap.size ≤ gb345)); have n5_ := Aside0.mk ((by rw [hg]; exact (below_size (by repeat (first | (with_reducible first | exact HB.out | apply below_alloc | apply pw_below_drewN | apply below_drew1 | refine below_set ?_ (IsS68.ge HI310.out)) | exact HB.out))) : w.heap.size ≤ gb345)); have n6_ := Aside0.mk ((by rw [hg]; exact Nat.ne_of_lt (IsS68.lt (show IsS68 w _ gb310 t339 t340 t341 from by repeat (first | (with_reducible first | exact HI310.out | apply IsS68.alloc | apply IsS68.drewN | apply IsS68.drew | apply IsS68.set_0 | apply IsS68.set_1 | apply IsS68.set_2) | exact HI310.out))) : gb310 ≠ gb345)); have n7_ := Aside0.mk ((by rw [hg]; exact Nat.ne_of_gt (IsS68.lt (show IsS68 w _ gb310 t339 t340 t341 from by repeat (first | (with_reducible first | exact HI310.out | apply IsS68.alloc | apply IsS68.drewN | apply IsS68.drew | apply IsS68.set_0 | apply IsS68.set_1 | apply IsS68.set_2) | exact HI310.out))) : gb345 ≠ gb310)); clear HO_8; clear HI310; clear HB; have HO_8 := n0_; have HI310 := n1_; have HB := n2_; have BK345 := n3_; have GW345 := n4_; have GE345 := n5_; have NB310_345 := n6_; have NB345_310 := n7_; clear n0_ n1_ n2_ n3_ n4_ n5_ n6_ n7_; clear hb hbox hg; have hnb79 := NB345_310.out; have hnc79 := NB310_345.out; have hcz80_0 : w78.cell? ⟨gb345, 0, none⟩ = some (.int .i64 0) := (blk_cell BK345.out 0).trans rfl; have hcz80_1 : w78.cell? ⟨gb345, 1, none⟩ = some (.int .i64 0) := (blk_cell BK345.out 1).trans rfl; have hcz80_2 : w78.cell? ⟨gb345, 2, none⟩ = some (.int .i64 0) := (blk_cell BK345.out 2).trans rfl; have hcz80_3 : w78.cell? ⟨gb345, 3, none⟩ = some (.int .i64 0) := (blk_cell BK345.out 3).trans rfl; have hcz80_4 : w78.cell? ⟨gb345, 4, none⟩ = some (.string (⟨#[]⟩ : ByteArray)) := (blk_cell BK345.out 4).trans rfl; have hcz80_5 : w78.cell? ⟨gb345, 5, none⟩ = some (.float .f64 0) := (blk_cell BK345.out 5).trans rfl; have hfz80_0 := blk_frozen BK345.out 0; have hfz80_1 := blk_frozen BK345.out 1; have hfz80_2 := blk_frozen BK345.out 2; have hfz80_3 := blk_frozen BK345.out 3; have hfz80_4 := blk_frozen BK345.out 4; have hfz80_5 := blk_frozen BK345.out 5) | ((with_reducible refine gate_callee (f := 41) rfl ?_); refine goesL_ (some 129) rfl rfl Try.func41 (by kernel_rfl) rfl #[.agg #[.int .i64 (wrap64 (t319)), .int .i64 (wrap64 (t323)), .int .i64 (wrap64 (t327)), .int .i64 (wrap64 (t331)), .string t335, .float .f64 bv344]] rfl (by (try simp only [List.map_toArray, List.map_cons, List.map_nil]); first | done | rfl | (simp only [List.length_drop, List.length_take]; rfl)) ?_; (with_reducible refine (bonsairef13_One.calls kj23 (wrap64 (t319)) (wrap64 (t323)) (wrap64 (t327)) (wrap64 (t331)) t335 _ t343 false _ ?side1 A41.out).mono ?_); (case side1 => exact (by first | assumption | exact FB_lit _ _ rfl | exact FB_int _ | simpa using (by assumption))); rintro e w81 ⟨rfl, hb⟩; refine ⟨_, rfl, ?_⟩; have n0_ := Aside0.mk (Kd.R_below (by (with_reducible repeat (first | apply Kd.R_alloc | apply Kd.R_drewN | apply Kd.R_drew)); exact (Kd.R_mono (Kd.R_far (p := ⟨gb345, 5, none⟩) (Kd.R_far (p := ⟨gb345, 4, none⟩) (Kd.R_far (p := ⟨gb345, 3, none⟩) (Kd.R_far (p := ⟨gb345, 2, none⟩) (Kd.R_far (p := ⟨gb345, 1, none⟩) (Kd.R_far (p := ⟨gb345, 0, none⟩) (Kd.R_mono HO_8.out (fun k_ hk => (⟨hk, hk.2⟩ : _ ∧ k_ ≠ gb345))) (fun _ hk => hk.2) (.int .i64 (wrap64 (t319)))) (fun _ hk => hk.2) (.int .i64 (wrap64 (t323)))) (fun _ hk => hk.2) (.int .i64 (wrap64 (t327)))) (fun _ hk => hk.2) (.int .i64 (wrap64 (t331)))) (fun _ hk => hk.2) (.string t335)) (fun _ hk => hk.2) (.float .f64 bv344)) (fun _ h_ => h_.1))) hb); have n1_ := Aside0.mk (IsS68.below (show IsS68 w ((((((w78.setCell ⟨gb345, 0, none⟩ (.int .i64 (wrap64 (t319)))).setCell ⟨gb345, 1, none⟩ (.int .i64 (wrap64 (t323)))).setCell ⟨gb345, 2, none⟩ (.int .i64 (wrap64 (t327)))).setCell ⟨gb345, 3, none⟩ (.int .i64 (wrap64 (t331)))).setCell ⟨gb345, 4, none⟩ (.string t335)).setCell ⟨gb345, 5, none⟩ (.float .f64 bv344)) gb310 t339 t340 t341 from by repeat (first | (with_reducible first | exact HI310.out | apply IsS68.alloc | apply IsS68.drewN | apply IsS68.drew | apply IsS68.set_0 | apply IsS68.set_1 | apply IsS68.set_2 | refine IsS68.far ?_ NB310_345.out _) | exact HI310.out)) hb); have n2_ := Aside0.mk (blk_below (g := gb345) (o := .cells #[.int .i64 (wrap64 (t319)), .int .i64 (wrap64 (t323)), .int .i64 (wrap64 (t327)), .int .i64 (wrap64 (t331)), .string t335, .float .f64 bv344] 30 (0, 0)) (by (with_reducible repeat (first | refine blk_drewN ?_ _ | refine blk_drew ?_ | refine blk_alloc ?_ _)); refine blk_put (cs := #[.int .i64 (wrap64 (t319)), .int .i64 (wrap64 (t323)), .int .i64 (wrap64 (t327)), .int .i64 (wrap64 (t331)), .string t335, .float .f64 0]) ?_ 5 _ rfl; (with_reducible repeat (first | refine blk_drewN ?_ _ | refine blk_drew ?_ | refine blk_alloc ?_ _)); refine blk_put (cs := #[.int .i64 (wrap64 (t319)), .int .i64 (wrap64 (t323)), .int .i64 (wrap64 (t327)), .int .i64 (wrap64 (t331)), .string (⟨#[]⟩ : ByteArray), .float .f64 0]) ?_ 4 _ rfl; (with_reducible repeat (first | refine blk_drewN ?_ _ | refine blk_drew ?_ | refine blk_alloc ?_ _)); refine blk_put (cs := #[.int .i64 (wrap64 (t319)), .int .i64 (wrap64 (t323)), .int .i64 (wrap64 (t327)), .int .i64 0, .string (⟨#[]⟩ : ByteArray), .float .f64 0]) ?_ 3 _ rfl; (with_reducible repeat (first | refine blk_drewN ?_ _ | refine blk_drew ?_ | refine blk_alloc ?_ _)); refine blk_put (cs := #[.int .i64 (wrap64 (t319)), .int .i64 (wrap64 (t323)), .int .i64 0, .int .i64 0, .string (⟨#[]⟩ : ByteArray), .float .f64 0]) ?_ 2 _ rfl; (with_reducible repeat (first | refine blk_drewN ?_ _ | refine blk_drew ?_ | refine blk_alloc ?_ _)); refine blk_put (cs := #[.int .i64 (wrap64 (t319)), .int .i64 0, .int .i64 0, .int .i64 0, .string (⟨#[]⟩ : ByteArray), .float .f64 0]) ?_ 1 _ rfl; (with_reducible repeat (first | refine blk_drewN ?_ _ | refine blk_drew ?_ | refine blk_alloc ?_ _)); refine blk_put (cs := #[.int .i64 0, .int .i64 0, .int .i64 0, .int .i64 0, .string (⟨#[]⟩ : ByteArray), .float .f64 0]) ?_ 0 _ rfl; (with_reducible repeat (first | refine blk_drewN ?_ _ | refine blk_drew ?_ | refine blk_alloc ?_ _)); exact BK345.out) hb); have n3_ := Aside0.mk (below_step (by repeat (first | (with_reducible first | exact HB.out | apply below_alloc | apply pw_below_drewN | apply below_drew1 | refine below_set ?_ (IsS68.ge HI310.out) | refine below_set ?_ GE345.out) | exact HB.out)) hb); clear HO_8; clear HI310; clear BK345; clear HB; have HO_8 := n0_; have HI310 := n1_; have BK345 := n2_; have HB := n3_; clear n0_ n1_ n2_ n3_; (try clear hb); (try clear hb2); (try clear hk); (try clear hi)))
                              go_ret2
                              exact ⟨_, by first | rfl | (simp [errW_none, errW_some] <;> rfl) | (simp [*, errW_none, errW_some] <;> rfl), by first | exact Kd.R_nil _ _ _ _ _ | exact Kd.N_nil _ _ _ _ _ | exact Kd.V_nil _ _ _ _ _ | exact Kd.Q_nil _ _ _ _ _ | exact Kd.S_nil _ _ _ _ _, by repeat (first | (with_reducible first | exact HB.out | apply below_alloc | apply pw_below_drewN | apply below_drew1 | refine below_set ?_ (IsS68.ge HI310.out) | refine below_set ?_ GE345.out) | exact HB.out)⟩
                    · rw [if_neg c23] at H
                      have c23b0 : (t341 == 0) = false := beq_eq_false_iff_ne.mpr c23
                      have c23b1 : (t341 != 0) = true := bne_iff_ne.mpr c23
                      simp only [Option.some.injEq, Prod.mk.injEq] at H
                      obtain ⟨rfl, rfl⟩ := H
                      try go_wp2_with (first | ((with_reducible refine gate_callee (f := 36) rfl ?_); refine goesL_ (some 52) rfl rfl Try.func36 (by kernel_rfl) rfl #[.pointer (some ⟨gb310, 0, none⟩)] rfl (by (try simp only [List.map_toArray, List.map_cons, List.map_nil]); first | done | rfl | (simp only [List.length_drop, List.length_take]; rfl)) ?_; (with_reducible refine (bonsairef03_Reader_Num.calls k1 gb310 x311000_1 x311001_1 x311002_1 t319 t320 t321 t322 w _ ?side1 ?side2 A15.out).mono ?_); (case side1 => repeat (first | (with_reducible first | exact HI310.out | apply IsS68.alloc | apply IsS68.drewN | apply IsS68.drew | apply IsS68.set_0 | apply IsS68.set_1 | apply IsS68.set_2) | exact HI310.out)); (case side2 => repeat (first | (with_reducible first | exact HB.out | apply below_alloc | apply pw_below_drewN | apply below_drew1 | refine below_set ?_ (IsS68.ge HI310.out)) | exact HB.out)); rintro e w82 ⟨rfl, hi, hb, hk⟩; refine ⟨_, rfl, ?_⟩; have n0_ := Aside0.mk (Kd.R_mono (Kd.R_keep (IsS68.apart (show IsS68 w _ gb310 x311000_1 x311001_1 x311002_1 from by repeat (first | (with_reducible first | exact HI310.out | apply IsS68.alloc | apply IsS68.drewN | apply IsS68.drew | apply IsS68.set_0 | apply IsS68.set_1 | apply IsS68.set_2) | exact HI310.out)) (by (with_reducible repeat (first | apply Kd.R_alloc | apply Kd.R_drewN | apply Kd.R_drew)); exact HO_8.out) (by decide)) hk (fun _ h => h.2)) (fun _ h => h.1)); have n1_ := Aside0.mk (hb); have n2_ := Aside0.mk (hi); clear HO_8; clear HB; clear HI310; have HO_8 := n0_; have HB := n1_; have HI310 := n2_; clear n0_ n1_ n2_; (try clear hb); (try clear hb2); (try clear hk); (try clear hi)) | ((with_reducible refine gate_callee (f := 36) rfl ?_); refine goesL_ (some 54) rfl rfl Try.func36 (by kernel_rfl) rfl #[.pointer (some ⟨gb310, 0, none⟩)] rfl (by (try simp only [List.map_toArray, List.map_cons, List.map_nil]); first | done | rfl | (simp only [List.length_drop, List.length_take]; rfl)) ?_; (with_reducible refine (bonsairef03_Reader_Num.calls k1 gb310 t320 t321 t322 t323 t324 t325 t326 w _ ?side1 ?side2 A16.out).mono ?_); (case side1 => repeat (first | (with_reducible first | exact HI310.out | apply IsS68.alloc | apply IsS68.drewN | apply IsS68.drew | apply IsS68.set_0 | apply IsS68.set_1 | apply IsS68.set_2) | exact HI310.out)); (case side2 => repeat (first | (with_reducible first | exact HB.out | apply below_alloc | apply pw_below_drewN | apply below_drew1 | refine below_set ?_ (IsS68.ge HI310.out)) | exact HB.out)); rintro e w83 ⟨rfl, hi, hb, hk⟩; refine ⟨_, rfl, ?_⟩; have n0_ := Aside0.mk (Kd.R_mono (Kd.R_keep (IsS68.apart (show IsS68 w _ gb310 t320 t321 t322 from by repeat (first | (with_reducible first | exact HI310.out | apply IsS68.alloc | apply IsS68.drewN | apply IsS68.drew | apply IsS68.set_0 | apply IsS68.set_1 | apply IsS68.set_2) | exact HI310.out)) (by (with_reducible repeat (first | apply Kd.R_alloc | apply Kd.R_drewN | apply Kd.R_drew)); exact HO_8.out) (by decide)) hk (fun _ h => h.2)) (fun _ h => h.1)); have n1_ := Aside0.mk (hb); have n2_ := Aside0.mk (hi); clear HO_8; clear HB; clear HI310; have HO_8 := n0_; have HB := n1_; have HI310 := n2_; clear n0_ n1_ n2_; (try clear hb); (try clear hb2); (try clear hk); (try clear hi)) | ((with_reducible refine gate_callee (f := 36) rfl ?_); refine goesL_ (some 56) rfl rfl Try.func36 (by kernel_rfl) rfl #[.pointer (some ⟨gb310, 0, none⟩)] rfl (by (try simp only [List.map_toArray, List.map_cons, List.map_nil]); first | done | rfl | (simp only [List.length_drop, List.length_take]; rfl)) ?_; (with_reducible refine (bonsairef03_Reader_Num.calls k1 gb310 t324 t325 t326 t327 t328 t329 t330 w _ ?side1 ?side2 A17.out).mono ?_); (case side1 => repeat (first | (with_reducible first | exact HI310.out | apply IsS68.alloc | apply IsS68.drewN | apply IsS68.drew | apply IsS68.set_0 | apply IsS68.set_1 | apply IsS68.set_2) | exact HI310.out)); (case side2 => repeat (first | (with_reducible first | exact HB.out | apply below_alloc | apply pw_below_drewN | apply below_drew1 | refine below_set ?_ (IsS68.ge HI310.out)) | exact HB.out)); rintro e w84 ⟨rfl, hi, hb, hk⟩; refine ⟨_, rfl, ?_⟩; have n0_ := Aside0.mk (Kd.R_mono (Kd.R_keep (IsS68.apart (show IsS68 w _ gb310 t324 t325 t326 from by repeat (first | (with_reducible first | exact HI310.out | apply IsS68.alloc | apply IsS68.drewN | apply IsS68.drew | apply IsS68.set_0 | apply IsS68.set_1 | apply IsS68.set_2) | exact HI310.out)) (by (with_reducible repeat (first | apply Kd.R_alloc | apply Kd.R_drewN | apply Kd.R_drew)); exact HO_8.out) (by decide)) hk (fun _ h => h.2)) (fun _ h => h.1)); have n1_ := Aside0.mk (hb); have n2_ := Aside0.mk (hi); clear HO_8; clear HB; clear HI310; have HO_8 := n0_; have HB := n1_; have HI310 := n2_; clear n0_ n1_ n2_; (try clear hb); (try clear hb2); (try clear hk); (try clear hi)) | ((with_reducible refine gate_callee (f := 36) rfl ?_); refine goesL_ (some 58) rfl rfl Try.func36 (by kernel_rfl) rfl #[.pointer (some ⟨gb310, 0, none⟩)] rfl (by (try simp only [List.map_toArray, List.map_cons, List.map_nil]); first | done | rfl | (simp only [List.length_drop, List.length_take]; rfl)) ?_; (with_reducible refine (bonsairef03_Reader_Num.calls k1 gb310 t328 t329 t330 t331 t332 t333 t334 w _ ?side1 ?side2 A18.out).mono ?_); (case side1 => repeat (first | (with_reducible first | exact HI310.out | apply IsS68.alloc | apply IsS68.drewN | apply IsS68.drew | apply IsS68.set_0 | apply IsS68.set_1 | apply IsS68.set_2) | exact HI310.out)); (case side2 => repeat (first | (with_reducible first | exact HB.out | apply below_alloc | apply pw_below_drewN | apply below_drew1 | refine below_set ?_ (IsS68.ge HI310.out)) | exact HB.out)); rintro e w85 ⟨rfl, hi, hb, hk⟩; refine ⟨_, rfl, ?_⟩; have n0_ := Aside0.mk (Kd.R_mono (Kd.R_keep (IsS68.apart (show IsS68 w _ gb310 t328 t329 t330 from by repeat (first | (with_reducible first | exact HI310.out | apply IsS68.alloc | apply IsS68.drewN | apply IsS68.drew | apply IsS68.set_0 | apply IsS68.set_1 | apply IsS68.set_2) | exact HI310.out)) (by (with_reducible repeat (first | apply Kd.R_alloc | apply Kd.R_drewN | apply Kd.R_drew)); exact HO_8.out) (by decide)) hk (fun _ h => h.2)) (fun _ h => h.1)); have n1_ := Aside0.mk (hb); have n2_ := Aside0.mk (hi); clear HO_8; clear HB; clear HI310; have HO_8 := n0_; have HB := n1_; have HI310 := n2_; clear n0_ n1_ n2_; (try clear hb); (try clear hb2); (try clear hk); (try clear hi); obtain ⟨HGz86, hgz86⟩ := HI310.out; have hcz86_0 := cellS68_0 HGz86; have hcz86_1 := cellS68_1 HGz86; have hcz86_2 := cellS68_2 HGz86; have hfz86_0 := blk_frozen HGz86 0; have hfz86_1 := blk_frozen HGz86 1; have hfz86_2 := blk_frozen HGz86 2; clear HGz86 hgz86) | ((with_reducible refine gate_callee (f := 37) rfl ?_); refine goesL_ (some 74) rfl rfl Try.func37 (by kernel_rfl) rfl #[.string a0, .int .i64 t333, .int .i64 64] rfl (by (try simp only [List.map_toArray, List.map_cons, List.map_nil]); first | done | rfl | (simp only [List.length_drop, List.length_take]; rfl)) ?_; (with_reducible refine (bonsairef04_Take.calls k1 a0 t333 64 t335 t336 t337 _ A20.out).mono ?_); rintro e w87 ⟨rfl, hb⟩; refine ⟨_, rfl, ?_⟩; have n0_ := Aside0.mk (Kd.R_below (by (with_reducible repeat (first | apply Kd.R_alloc | apply Kd.R_drewN | apply Kd.R_drew)); exact HO_8.out) hb); have n1_ := Aside0.mk (IsS68.below (by repeat (first | (with_reducible first | exact HI310.out | apply IsS68.alloc | apply IsS68.drewN | apply IsS68.drew | apply IsS68.set_0 | apply IsS68.set_1 | apply IsS68.set_2) | exact HI310.out)) hb); have n2_ := Aside0.mk (below_step (by repeat (first | (with_reducible first | exact HB.out | apply below_alloc | apply pw_below_drewN | apply below_drew1 | refine below_set ?_ (IsS68.ge HI310.out)) | exact HB.out)) hb); clear HO_8; clear HI310; clear HB; have HO_8 := n0_; have HI310 := n1_; have HB := n2_; clear n0_ n1_ n2_; (try clear hb); (try clear hb2); (try clear hk); (try clear hi); obtain ⟨HGz88, hgz88⟩ := HI310.out; have hcz88_0 := cellS68_0 HGz88; have hcz88_1 := cellS68_1 HGz88; have hcz88_2 := cellS68_2 HGz88; have hfz88_0 := blk_frozen HGz88 0; have hfz88_1 := blk_frozen HGz88 1; have hfz88_2 := blk_frozen HGz88 2; clear HGz88 hgz88) | ((with_reducible refine gate_callee (f := 38) rfl ?_); refine goesL_ (some 86) rfl rfl Try.func38 (by kernel_rfl) rfl #[.pointer (some ⟨gb310, 0, none⟩)] rfl (by (try simp only [List.map_toArray, List.map_cons, List.map_nil]); first | done | rfl | (simp only [List.length_drop, List.length_take]; rfl)) ?_; (with_reducible refine (bonsairef03_Reader_Fix.calls k1 gb310 t332 t336 t334 t338 t339 t340 t341 w _ ?side1 ?side2 A22.out).mono ?_); (case side1 => repeat (first | (with_reducible first | exact HI310.out | apply IsS68.alloc | apply IsS68.drewN | apply IsS68.drew | apply IsS68.set_0 | apply IsS68.set_1 | apply IsS68.set_2) | exact HI310.out)); (case side2 => repeat (first | (with_reducible first | exact HB.out | apply below_alloc | apply pw_below_drewN | apply below_drew1 | refine below_set ?_ (IsS68.ge HI310.out)) | exact HB.out)); rintro e w89 ⟨rfl, hi, hb, hk⟩; refine ⟨_, rfl, ?_⟩; have n0_ := Aside0.mk (Kd.R_mono (Kd.R_keep (IsS68.apart (show IsS68 w _ gb310 t332 t336 t334 from by repeat (first | (with_reducible first | exact HI310.out | apply IsS68.alloc | apply IsS68.drewN | apply IsS68.drew | apply IsS68.set_0 | apply IsS68.set_1 | apply IsS68.set_2) | exact HI310.out)) (by (with_reducible repeat (first | apply Kd.R_alloc | apply Kd.R_drewN | apply Kd.R_drew)); exact (Kd.R_mono (Kd.R_far (p := ⟨gb310, 1, none⟩) (IsS68.apart HI310.out HO_8.out (by decide)) (fun _ hk => hk.2) (.int .i64 t336)) (fun _ h_ => h_.1))) (by decide)) hk (fun _ h => h.2)) (fun _ h => h.1)); have n1_ := Aside0.mk (hb); have n2_ := Aside0.mk (hi); clear HO_8; clear HB; clear HI310; have HO_8 := n0_; have HB := n1_; have HI310 := n2_; clear n0_ n1_ n2_; (try clear hb); (try clear hb2); (try clear hk); (try clear hi); obtain ⟨HGz90, hgz90⟩ := HI310.out; have hcz90_0 := cellS68_0 HGz90; have hcz90_1 := cellS68_1 HGz90; have hcz90_2 := cellS68_2 HGz90; have hfz90_0 := blk_frozen HGz90 0; have hfz90_1 := blk_frozen HGz90 1; have hfz90_2 := blk_frozen HGz90 2; clear HGz90 hgz90))
                      have n0_ := Aside0.mk (Kd.R_drew HO_8.out)
                      have n1_ := Aside0.mk (IsS68.drew HI310.out)
                      have n2_ := Aside0.mk (below_drew1 HB.out)
                      clear HO_8
                      clear HI310
                      clear HB
                      have HO_8 := n0_
                      have HI310 := n1_
                      have HB := n2_
                      clear n0_ n1_ n2_
                      refine start_ (n := 6) (S := fun w' => w'.cell? ⟨gb310, 0, none⟩ = some (.string t339) ∧ w'.cell? ⟨gb310, 1, none⟩ = some (.int .i64 t340) ∧ w'.cell? ⟨gb310, 2, none⟩ = some (.int .i64 t341)) (ds := []) #[false, false, false, false, false, false] (by kernel_rfl) rfl rfl ⟨(blk_cell (show IsS68 w _ gb310 t339 t340 t341 from by repeat (first | (with_reducible first | exact HI310.out | apply IsS68.alloc | apply IsS68.drewN | apply IsS68.drew | apply IsS68.set_0 | apply IsS68.set_1 | apply IsS68.set_2) | exact HI310.out)).1 0).trans rfl, (blk_cell (show IsS68 w _ gb310 t339 t340 t341 from by repeat (first | (with_reducible first | exact HI310.out | apply IsS68.alloc | apply IsS68.drewN | apply IsS68.drew | apply IsS68.set_0 | apply IsS68.set_1 | apply IsS68.set_2) | exact HI310.out)).1 1).trans rfl, (blk_cell (show IsS68 w _ gb310 t339 t340 t341 from by repeat (first | (with_reducible first | exact HI310.out | apply IsS68.alloc | apply IsS68.drewN | apply IsS68.drew | apply IsS68.set_0 | apply IsS68.set_1 | apply IsS68.set_2) | exact HI310.out)).1 2).trans rfl⟩ (fun hHeld => ?_)
                      generalize w89.drew = w91 at HO_8 HI310 HB hHeld ⊢
                      refine pure_ (i := 0) (N := some 92) (v := ?_) (a' := ?_) #[true, false, false, false, false, false] rfl rfl (by kernel_rfl) (fun _ _ _ h => h) (Or.inl ⟨by rfl, ?_⟩) ?_ ?_
                      rotate_left
                      · intro w'
                        go_simp
                        with_reducible rfl
                      rotate_left
                      · simp only [Act.put, List.setIfInBounds_toArray, List.set_cons_zero, List.set_cons_succ, i64_w, i32_w]
                        rfl
                      refine pure_ (i := 1) (N := some 93) (v := ?_) (a' := ?_) #[true, true, false, false, false, false] rfl rfl (by kernel_rfl) (fun _ _ _ h => h) (Or.inl ⟨by rfl, ?_⟩) ?_ ?_
                      rotate_left
                      · intro w'
                        go_simp
                        with_reducible rfl
                      rotate_left
                      · simp only [Act.put, List.setIfInBounds_toArray, List.set_cons_zero, List.set_cons_succ, i64_w, i32_w]
                        rfl
                      refine pure_ (i := 2) (N := some 94) (v := ?_) (a' := ?_) #[true, true, true, false, false, false] rfl rfl (by kernel_rfl) (fun _ _ _ h => h) (Or.inl ⟨by rfl, ?_⟩) ?_ ?_
                      rotate_left
                      · intro w'
                        go_simp
                        with_reducible rfl
                      rotate_left
                      · simp only [Act.put, List.setIfInBounds_toArray, List.set_cons_zero, List.set_cons_succ, i64_w, i32_w]
                        rfl
                      refine pure_ (i := 4) (N := some 2) (v := ?_) (a' := ?_) #[true, true, true, false, true, false] rfl rfl (by kernel_rfl) (fun _ _ _ h => h) (Or.inl ⟨by rfl, ?_⟩) ?_ ?_
                      rotate_left
                      · intro w'
                        go_simp
                        with_reducible rfl
                      rotate_left
                      · simp only [Act.put, List.setIfInBounds_toArray, List.set_cons_zero, List.set_cons_succ, i64_w, i32_w]
                        rfl
                      refine take_ (i := 3) (N := some 95) (v := ?_) (a' := ?_) #[true, true, true, true, true, false] rfl rfl (by kernel_rfl) (fun _ _ _ h => h) (Or.inl ⟨by rfl, ?_⟩) hHeld ?_ ?_
                      rotate_left
                      · rintro w' ⟨s0, s1, s2⟩
                        go_simp
                        with_reducible rfl
                      rotate_left
                      · simp only [Act.put, List.setIfInBounds_toArray, List.set_cons_zero, List.set_cons_succ, i64_w, i32_w]
                        rfl
                      refine pure_ (i := 5) (N := some 3) (v := ?_) (a' := ?_) #[true, true, true, true, true, true] rfl rfl (by kernel_rfl) (fun _ _ _ h => h) (Or.inl ⟨by rfl, ?_⟩) ?_ ?_
                      rotate_left
                      · intro w'
                        go_simp
                        with_reducible rfl
                      rotate_left
                      · simp only [Act.put, List.setIfInBounds_toArray, List.set_cons_zero, List.set_cons_succ, i64_w, i32_w]
                        rfl
                      refine done_ (by kernel_rfl) ?_
                      try go_wp2
                      go_ret2
                      exact ⟨_, by first | rfl | (simp [errW_none, errW_some] <;> rfl) | (simp [*, errW_none, errW_some] <;> rfl), by first | exact Kd.R_nil _ _ _ _ _ | exact Kd.N_nil _ _ _ _ _ | exact Kd.V_nil _ _ _ _ _ | exact Kd.Q_nil _ _ _ _ _ | exact Kd.S_nil _ _ _ _ _, by repeat (first | (with_reducible first | exact HB.out | apply below_alloc | apply pw_below_drewN | apply below_drew1 | refine below_set ?_ (IsS68.ge HI310.out)) | exact HB.out)⟩
                  · rw [if_neg c21] at H
                    have c21b0 : (t337 == 0) = false := beq_eq_false_iff_ne.mpr c21
                    have c21b1 : (t337 != 0) = true := bne_iff_ne.mpr c21
                    simp only [Option.some.injEq, Prod.mk.injEq] at H
                    obtain ⟨rfl, rfl⟩ := H
                    go_wp2_with (first | ((with_reducible refine gate_callee (f := 36) rfl ?_); refine goesL_ (some 52) rfl rfl Try.func36 (by kernel_rfl) rfl #[.pointer (some ⟨gb310, 0, none⟩)] rfl (by (try simp only [List.map_toArray, List.map_cons, List.map_nil]); first | done | rfl | (simp only [List.length_drop, List.length_take]; rfl)) ?_; (with_reducible refine (bonsairef03_Reader_Num.calls k1 gb310 x311000_1 x311001_1 x311002_1 t319 t320 t321 t322 w _ ?side1 ?side2 A15.out).mono ?_); (case side1 => repeat (first | (with_reducible first | exact HI310.out | apply IsS68.alloc | apply IsS68.drewN | apply IsS68.drew | apply IsS68.set_0 | apply IsS68.set_1 | apply IsS68.set_2) | exact HI310.out)); (case side2 => repeat (first | (with_reducible first | exact HB.out | apply below_alloc | apply pw_below_drewN | apply below_drew1 | refine below_set ?_ (IsS68.ge HI310.out)) | exact HB.out)); rintro e w92 ⟨rfl, hi, hb, hk⟩; refine ⟨_, rfl, ?_⟩; have n0_ := Aside0.mk (Kd.R_mono (Kd.R_keep (IsS68.apart (show IsS68 w _ gb310 x311000_1 x311001_1 x311002_1 from by repeat (first | (with_reducible first | exact HI310.out | apply IsS68.alloc | apply IsS68.drewN | apply IsS68.drew | apply IsS68.set_0 | apply IsS68.set_1 | apply IsS68.set_2) | exact HI310.out)) (by (with_reducible repeat (first | apply Kd.R_alloc | apply Kd.R_drewN | apply Kd.R_drew)); exact HO_8.out) (by decide)) hk (fun _ h => h.2)) (fun _ h => h.1)); have n1_ := Aside0.mk (hb); have n2_ := Aside0.mk (hi); clear HO_8; clear HB; clear HI310; have HO_8 := n0_; have HB := n1_; have HI310 := n2_; clear n0_ n1_ n2_; (try clear hb); (try clear hb2); (try clear hk); (try clear hi)) | ((with_reducible refine gate_callee (f := 36) rfl ?_); refine goesL_ (some 54) rfl rfl Try.func36 (by kernel_rfl) rfl #[.pointer (some ⟨gb310, 0, none⟩)] rfl (by (try simp only [List.map_toArray, List.map_cons, List.map_nil]); first | done | rfl | (simp only [List.length_drop, List.length_take]; rfl)) ?_; (with_reducible refine (bonsairef03_Reader_Num.calls k1 gb310 t320 t321 t322 t323 t324 t325 t326 w _ ?side1 ?side2 A16.out).mono ?_); (case side1 => repeat (first | (with_reducible first | exact HI310.out | apply IsS68.alloc | apply IsS68.drewN | apply IsS68.drew | apply IsS68.set_0 | apply IsS68.set_1 | apply IsS68.set_2) | exact HI310.out)); (case side2 => repeat (first | (with_reducible first | exact HB.out | apply below_alloc | apply pw_below_drewN | apply below_drew1 | refine below_set ?_ (IsS68.ge HI310.out)) | exact HB.out)); rintro e w93 ⟨rfl, hi, hb, hk⟩; refine ⟨_, rfl, ?_⟩; have n0_ := Aside0.mk (Kd.R_mono (Kd.R_keep (IsS68.apart (show IsS68 w _ gb310 t320 t321 t322 from by repeat (first | (with_reducible first | exact HI310.out | apply IsS68.alloc | apply IsS68.drewN | apply IsS68.drew | apply IsS68.set_0 | apply IsS68.set_1 | apply IsS68.set_2) | exact HI310.out)) (by (with_reducible repeat (first | apply Kd.R_alloc | apply Kd.R_drewN | apply Kd.R_drew)); exact HO_8.out) (by decide)) hk (fun _ h => h.2)) (fun _ h => h.1)); have n1_ := Aside0.mk (hb); have n2_ := Aside0.mk (hi); clear HO_8; clear HB; clear HI310; have HO_8 := n0_; have HB := n1_; have HI310 := n2_; clear n0_ n1_ n2_; (try clear hb); (try clear hb2); (try clear hk); (try clear hi)) | ((with_reducible refine gate_callee (f := 36) rfl ?_); refine goesL_ (some 56) rfl rfl Try.func36 (by kernel_rfl) rfl #[.pointer (some ⟨gb310, 0, none⟩)] rfl (by (try simp only [List.map_toArray, List.map_cons, List.map_nil]); first | done | rfl | (simp only [List.length_drop, List.length_take]; rfl)) ?_; (with_reducible refine (bonsairef03_Reader_Num.calls k1 gb310 t324 t325 t326 t327 t328 t329 t330 w _ ?side1 ?side2 A17.out).mono ?_); (case side1 => repeat (first | (with_reducible first | exact HI310.out | apply IsS68.alloc | apply IsS68.drewN | apply IsS68.drew | apply IsS68.set_0 | apply IsS68.set_1 | apply IsS68.set_2) | exact HI310.out)); (case side2 => repeat (first | (with_reducible first | exact HB.out | apply below_alloc | apply pw_below_drewN | apply below_drew1 | refine below_set ?_ (IsS68.ge HI310.out)) | exact HB.out)); rintro e w94 ⟨rfl, hi, hb, hk⟩; refine ⟨_, rfl, ?_⟩; have n0_ := Aside0.mk (Kd.R_mono (Kd.R_keep (IsS68.apart (show IsS68 w _ gb310 t324 t325 t326 from by repeat (first | (with_reducible first | exact HI310.out | apply IsS68.alloc | apply IsS68.drewN | apply IsS68.drew | apply IsS68.set_0 | apply IsS68.set_1 | apply IsS68.set_2) | exact HI310.out)) (by (with_reducible repeat (first | apply Kd.R_alloc | apply Kd.R_drewN | apply Kd.R_drew)); exact HO_8.out) (by decide)) hk (fun _ h => h.2)) (fun _ h => h.1)); have n1_ := Aside0.mk (hb); have n2_ := Aside0.mk (hi); clear HO_8; clear HB; clear HI310; have HO_8 := n0_; have HB := n1_; have HI310 := n2_; clear n0_ n1_ n2_; (try clear hb); (try clear hb2); (try clear hk); (try clear hi)) | ((with_reducible refine gate_callee (f := 36) rfl ?_); refine goesL_ (some 58) rfl rfl Try.func36 (by kernel_rfl) rfl #[.pointer (some ⟨gb310, 0, none⟩)] rfl (by (try simp only [List.map_toArray, List.map_cons, List.map_nil]); first | done | rfl | (simp only [List.length_drop, List.length_take]; rfl)) ?_; (with_reducible refine (bonsairef03_Reader_Num.calls k1 gb310 t328 t329 t330 t331 t332 t333 t334 w _ ?side1 ?side2 A18.out).mono ?_); (case side1 => repeat (first | (with_reducible first | exact HI310.out | apply IsS68.alloc | apply IsS68.drewN | apply IsS68.drew | apply IsS68.set_0 | apply IsS68.set_1 | apply IsS68.set_2) | exact HI310.out)); (case side2 => repeat (first | (with_reducible first | exact HB.out | apply below_alloc | apply pw_below_drewN | apply below_drew1 | refine below_set ?_ (IsS68.ge HI310.out)) | exact HB.out)); rintro e w95 ⟨rfl, hi, hb, hk⟩; refine ⟨_, rfl, ?_⟩; have n0_ := Aside0.mk (Kd.R_mono (Kd.R_keep (IsS68.apart (show IsS68 w _ gb310 t328 t329 t330 from by repeat (first | (with_reducible first | exact HI310.out | apply IsS68.alloc | apply IsS68.drewN | apply IsS68.drew | apply IsS68.set_0 | apply IsS68.set_1 | apply IsS68.set_2) | exact HI310.out)) (by (with_reducible repeat (first | apply Kd.R_alloc | apply Kd.R_drewN | apply Kd.R_drew)); exact HO_8.out) (by decide)) hk (fun _ h => h.2)) (fun _ h => h.1)); have n1_ := Aside0.mk (hb); have n2_ := Aside0.mk (hi); clear HO_8; clear HB; clear HI310; have HO_8 := n0_; have HB := n1_; have HI310 := n2_; clear n0_ n1_ n2_; (try clear hb); (try clear hb2); (try clear hk); (try clear hi); obtain ⟨HGz96, hgz96⟩ := HI310.out; have hcz96_0 := cellS68_0 HGz96; have hcz96_1 := cellS68_1 HGz96; have hcz96_2 := cellS68_2 HGz96; have hfz96_0 := blk_frozen HGz96 0; have hfz96_1 := blk_frozen HGz96 1; have hfz96_2 := blk_frozen HGz96 2; clear HGz96 hgz96) | ((with_reducible refine gate_callee (f := 37) rfl ?_); refine goesL_ (some 74) rfl rfl Try.func37 (by kernel_rfl) rfl #[.string a0, .int .i64 t333, .int .i64 64] rfl (by (try simp only [List.map_toArray, List.map_cons, List.map_nil]); first | done | rfl | (simp only [List.length_drop, List.length_take]; rfl)) ?_; (with_reducible refine (bonsairef04_Take.calls k1 a0 t333 64 t335 t336 t337 _ A20.out).mono ?_); rintro e w97 ⟨rfl, hb⟩; refine ⟨_, rfl, ?_⟩; have n0_ := Aside0.mk (Kd.R_below (by (with_reducible repeat (first | apply Kd.R_alloc | apply Kd.R_drewN | apply Kd.R_drew)); exact HO_8.out) hb); have n1_ := Aside0.mk (IsS68.below (by repeat (first | (with_reducible first | exact HI310.out | apply IsS68.alloc | apply IsS68.drewN | apply IsS68.drew | apply IsS68.set_0 | apply IsS68.set_1 | apply IsS68.set_2) | exact HI310.out)) hb); have n2_ := Aside0.mk (below_step (by repeat (first | (with_reducible first | exact HB.out | apply below_alloc | apply pw_below_drewN | apply below_drew1 | refine below_set ?_ (IsS68.ge HI310.out)) | exact HB.out)) hb); clear HO_8; clear HI310; clear HB; have HO_8 := n0_; have HI310 := n1_; have HB := n2_; clear n0_ n1_ n2_; (try clear hb); (try clear hb2); (try clear hk); (try clear hi)))
                    go_ret2
                    exact ⟨_, by first | rfl | (simp [errW_none, errW_some] <;> rfl) | (simp [*, errW_none, errW_some] <;> rfl), by first | exact Kd.R_nil _ _ _ _ _ | exact Kd.N_nil _ _ _ _ _ | exact Kd.V_nil _ _ _ _ _ | exact Kd.Q_nil _ _ _ _ _ | exact Kd.S_nil _ _ _ _ _, by repeat (first | (with_reducible first | exact HB.out | apply below_alloc | apply pw_below_drewN | apply below_drew1 | refine below_set ?_ (IsS68.ge HI310.out)) | exact HB.out)⟩
                · rw [if_neg c19] at H
                  have c19b0 : (t334 == 0) = false := beq_eq_false_iff_ne.mpr c19
                  have c19b1 : (t334 != 0) = true := bne_iff_ne.mpr c19
                  simp only [Option.some.injEq, Prod.mk.injEq] at H
                  obtain ⟨rfl, rfl⟩ := H
                  try go_wp2_with (first | ((with_reducible refine gate_callee (f := 36) rfl ?_); refine goesL_ (some 52) rfl rfl Try.func36 (by kernel_rfl) rfl #[.pointer (some ⟨gb310, 0, none⟩)] rfl (by (try simp only [List.map_toArray, List.map_cons, List.map_nil]); first | done | rfl | (simp only [List.length_drop, List.length_take]; rfl)) ?_; (with_reducible refine (bonsairef03_Reader_Num.calls k1 gb310 x311000_1 x311001_1 x311002_1 t319 t320 t321 t322 w _ ?side1 ?side2 A15.out).mono ?_); (case side1 => repeat (first | (with_reducible first | exact HI310.out | apply IsS68.alloc | apply IsS68.drewN | apply IsS68.drew | apply IsS68.set_0 | apply IsS68.set_1 | apply IsS68.set_2) | exact HI310.out)); (case side2 => repeat (first | (with_reducible first | exact HB.out | apply below_alloc | apply pw_below_drewN | apply below_drew1 | refine below_set ?_ (IsS68.ge HI310.out)) | exact HB.out)); rintro e w98 ⟨rfl, hi, hb, hk⟩; refine ⟨_, rfl, ?_⟩; have n0_ := Aside0.mk (Kd.R_mono (Kd.R_keep (IsS68.apart (show IsS68 w _ gb310 x311000_1 x311001_1 x311002_1 from by repeat (first | (with_reducible first | exact HI310.out | apply IsS68.alloc | apply IsS68.drewN | apply IsS68.drew | apply IsS68.set_0 | apply IsS68.set_1 | apply IsS68.set_2) | exact HI310.out)) (by (with_reducible repeat (first | apply Kd.R_alloc | apply Kd.R_drewN | apply Kd.R_drew)); exact HO_8.out) (by decide)) hk (fun _ h => h.2)) (fun _ h => h.1)); have n1_ := Aside0.mk (hb); have n2_ := Aside0.mk (hi); clear HO_8; clear HB; clear HI310; have HO_8 := n0_; have HB := n1_; have HI310 := n2_; clear n0_ n1_ n2_; (try clear hb); (try clear hb2); (try clear hk); (try clear hi)) | ((with_reducible refine gate_callee (f := 36) rfl ?_); refine goesL_ (some 54) rfl rfl Try.func36 (by kernel_rfl) rfl #[.pointer (some ⟨gb310, 0, none⟩)] rfl (by (try simp only [List.map_toArray, List.map_cons, List.map_nil]); first | done | rfl | (simp only [List.length_drop, List.length_take]; rfl)) ?_; (with_reducible refine (bonsairef03_Reader_Num.calls k1 gb310 t320 t321 t322 t323 t324 t325 t326 w _ ?side1 ?side2 A16.out).mono ?_); (case side1 => repeat (first | (with_reducible first | exact HI310.out | apply IsS68.alloc | apply IsS68.drewN | apply IsS68.drew | apply IsS68.set_0 | apply IsS68.set_1 | apply IsS68.set_2) | exact HI310.out)); (case side2 => repeat (first | (with_reducible first | exact HB.out | apply below_alloc | apply pw_below_drewN | apply below_drew1 | refine below_set ?_ (IsS68.ge HI310.out)) | exact HB.out)); rintro e w99 ⟨rfl, hi, hb, hk⟩; refine ⟨_, rfl, ?_⟩; have n0_ := Aside0.mk (Kd.R_mono (Kd.R_keep (IsS68.apart (show IsS68 w _ gb310 t320 t321 t322 from by repeat (first | (with_reducible first | exact HI310.out | apply IsS68.alloc | apply IsS68.drewN | apply IsS68.drew | apply IsS68.set_0 | apply IsS68.set_1 | apply IsS68.set_2) | exact HI310.out)) (by (with_reducible repeat (first | apply Kd.R_alloc | apply Kd.R_drewN | apply Kd.R_drew)); exact HO_8.out) (by decide)) hk (fun _ h => h.2)) (fun _ h => h.1)); have n1_ := Aside0.mk (hb); have n2_ := Aside0.mk (hi); clear HO_8; clear HB; clear HI310; have HO_8 := n0_; have HB := n1_; have HI310 := n2_; clear n0_ n1_ n2_; (try clear hb); (try clear hb2); (try clear hk); (try clear hi)) | ((with_reducible refine gate_callee (f := 36) rfl ?_); refine goesL_ (some 56) rfl rfl Try.func36 (by kernel_rfl) rfl #[.pointer (some ⟨gb310, 0, none⟩)] rfl (by (try simp only [List.map_toArray, List.map_cons, List.map_nil]); first | done | rfl | (simp only [List.length_drop, List.length_take]; rfl)) ?_; (with_reducible refine (bonsairef03_Reader_Num.calls k1 gb310 t324 t325 t326 t327 t328 t329 t330 w _ ?side1 ?side2 A17.out).mono ?_); (case side1 => repeat (first | (with_reducible first | exact HI310.out | apply IsS68.alloc | apply IsS68.drewN | apply IsS68.drew | apply IsS68.set_0 | apply IsS68.set_1 | apply IsS68.set_2) | exact HI310.out)); (case side2 => repeat (first | (with_reducible first | exact HB.out | apply below_alloc | apply pw_below_drewN | apply below_drew1 | refine below_set ?_ (IsS68.ge HI310.out)) | exact HB.out)); rintro e w100 ⟨rfl, hi, hb, hk⟩; refine ⟨_, rfl, ?_⟩; have n0_ := Aside0.mk (Kd.R_mono (Kd.R_keep (IsS68.apart (show IsS68 w _ gb310 t324 t325 t326 from by repeat (first | (with_reducible first | exact HI310.out | apply IsS68.alloc | apply IsS68.drewN | apply IsS68.drew | apply IsS68.set_0 | apply IsS68.set_1 | apply IsS68.set_2) | exact HI310.out)) (by (with_reducible repeat (first | apply Kd.R_alloc | apply Kd.R_drewN | apply Kd.R_drew)); exact HO_8.out) (by decide)) hk (fun _ h => h.2)) (fun _ h => h.1)); have n1_ := Aside0.mk (hb); have n2_ := Aside0.mk (hi); clear HO_8; clear HB; clear HI310; have HO_8 := n0_; have HB := n1_; have HI310 := n2_; clear n0_ n1_ n2_; (try clear hb); (try clear hb2); (try clear hk); (try clear hi)) | ((with_reducible refine gate_callee (f := 36) rfl ?_); refine goesL_ (some 58) rfl rfl Try.func36 (by kernel_rfl) rfl #[.pointer (some ⟨gb310, 0, none⟩)] rfl (by (try simp only [List.map_toArray, List.map_cons, List.map_nil]); first | done | rfl | (simp only [List.length_drop, List.length_take]; rfl)) ?_; (with_reducible refine (bonsairef03_Reader_Num.calls k1 gb310 t328 t329 t330 t331 t332 t333 t334 w _ ?side1 ?side2 A18.out).mono ?_); (case side1 => repeat (first | (with_reducible first | exact HI310.out | apply IsS68.alloc | apply IsS68.drewN | apply IsS68.drew | apply IsS68.set_0 | apply IsS68.set_1 | apply IsS68.set_2) | exact HI310.out)); (case side2 => repeat (first | (with_reducible first | exact HB.out | apply below_alloc | apply pw_below_drewN | apply below_drew1 | refine below_set ?_ (IsS68.ge HI310.out)) | exact HB.out)); rintro e w101 ⟨rfl, hi, hb, hk⟩; refine ⟨_, rfl, ?_⟩; have n0_ := Aside0.mk (Kd.R_mono (Kd.R_keep (IsS68.apart (show IsS68 w _ gb310 t328 t329 t330 from by repeat (first | (with_reducible first | exact HI310.out | apply IsS68.alloc | apply IsS68.drewN | apply IsS68.drew | apply IsS68.set_0 | apply IsS68.set_1 | apply IsS68.set_2) | exact HI310.out)) (by (with_reducible repeat (first | apply Kd.R_alloc | apply Kd.R_drewN | apply Kd.R_drew)); exact HO_8.out) (by decide)) hk (fun _ h => h.2)) (fun _ h => h.1)); have n1_ := Aside0.mk (hb); have n2_ := Aside0.mk (hi); clear HO_8; clear HB; clear HI310; have HO_8 := n0_; have HB := n1_; have HI310 := n2_; clear n0_ n1_ n2_; (try clear hb); (try clear hb2); (try clear hk); (try clear hi); obtain ⟨HGz102, hgz102⟩ := HI310.out; have hcz102_0 := cellS68_0 HGz102; have hcz102_1 := cellS68_1 HGz102; have hcz102_2 := cellS68_2 HGz102; have hfz102_0 := blk_frozen HGz102 0; have hfz102_1 := blk_frozen HGz102 1; have hfz102_2 := blk_frozen HGz102 2; clear HGz102 hgz102))
                  have n0_ := Aside0.mk (Kd.R_drew HO_8.out)
                  have n1_ := Aside0.mk (IsS68.drew HI310.out)
                  have n2_ := Aside0.mk (below_drew1 HB.out)
                  clear HO_8
                  clear HI310
                  clear HB
                  have HO_8 := n0_
                  have HI310 := n1_
                  have HB := n2_
                  clear n0_ n1_ n2_
                  refine start_ (n := 6) (S := fun w' => w'.cell? ⟨gb310, 0, none⟩ = some (.string t332) ∧ w'.cell? ⟨gb310, 1, none⟩ = some (.int .i64 t333) ∧ w'.cell? ⟨gb310, 2, none⟩ = some (.int .i64 t334)) (ds := []) #[false, false, false, false, false, false] (by kernel_rfl) rfl rfl ⟨(blk_cell (show IsS68 w _ gb310 t332 t333 t334 from by repeat (first | (with_reducible first | exact HI310.out | apply IsS68.alloc | apply IsS68.drewN | apply IsS68.drew | apply IsS68.set_0 | apply IsS68.set_1 | apply IsS68.set_2) | exact HI310.out)).1 0).trans rfl, (blk_cell (show IsS68 w _ gb310 t332 t333 t334 from by repeat (first | (with_reducible first | exact HI310.out | apply IsS68.alloc | apply IsS68.drewN | apply IsS68.drew | apply IsS68.set_0 | apply IsS68.set_1 | apply IsS68.set_2) | exact HI310.out)).1 1).trans rfl, (blk_cell (show IsS68 w _ gb310 t332 t333 t334 from by repeat (first | (with_reducible first | exact HI310.out | apply IsS68.alloc | apply IsS68.drewN | apply IsS68.drew | apply IsS68.set_0 | apply IsS68.set_1 | apply IsS68.set_2) | exact HI310.out)).1 2).trans rfl⟩ (fun hHeld => ?_)
                  generalize w101.drew = w103 at HO_8 HI310 HB hHeld ⊢
                  refine pure_ (i := 0) (N := some 64) (v := ?_) (a' := ?_) #[true, false, false, false, false, false] rfl rfl (by kernel_rfl) (fun _ _ _ h => h) (Or.inl ⟨by rfl, ?_⟩) ?_ ?_
                  rotate_left
                  · intro w'
                    go_simp
                    with_reducible rfl
                  rotate_left
                  · simp only [Act.put, List.setIfInBounds_toArray, List.set_cons_zero, List.set_cons_succ, i64_w, i32_w]
                    rfl
                  refine pure_ (i := 1) (N := some 65) (v := ?_) (a' := ?_) #[true, true, false, false, false, false] rfl rfl (by kernel_rfl) (fun _ _ _ h => h) (Or.inl ⟨by rfl, ?_⟩) ?_ ?_
                  rotate_left
                  · intro w'
                    go_simp
                    with_reducible rfl
                  rotate_left
                  · simp only [Act.put, List.setIfInBounds_toArray, List.set_cons_zero, List.set_cons_succ, i64_w, i32_w]
                    rfl
                  refine pure_ (i := 2) (N := some 66) (v := ?_) (a' := ?_) #[true, true, true, false, false, false] rfl rfl (by kernel_rfl) (fun _ _ _ h => h) (Or.inl ⟨by rfl, ?_⟩) ?_ ?_
                  rotate_left
                  · intro w'
                    go_simp
                    with_reducible rfl
                  rotate_left
                  · simp only [Act.put, List.setIfInBounds_toArray, List.set_cons_zero, List.set_cons_succ, i64_w, i32_w]
                    rfl
                  refine pure_ (i := 4) (N := some 2) (v := ?_) (a' := ?_) #[true, true, true, false, true, false] rfl rfl (by kernel_rfl) (fun _ _ _ h => h) (Or.inl ⟨by rfl, ?_⟩) ?_ ?_
                  rotate_left
                  · intro w'
                    go_simp
                    with_reducible rfl
                  rotate_left
                  · simp only [Act.put, List.setIfInBounds_toArray, List.set_cons_zero, List.set_cons_succ, i64_w, i32_w]
                    rfl
                  refine take_ (i := 3) (N := some 67) (v := ?_) (a' := ?_) #[true, true, true, true, true, false] rfl rfl (by kernel_rfl) (fun _ _ _ h => h) (Or.inl ⟨by rfl, ?_⟩) hHeld ?_ ?_
                  rotate_left
                  · rintro w' ⟨s0, s1, s2⟩
                    go_simp
                    with_reducible rfl
                  rotate_left
                  · simp only [Act.put, List.setIfInBounds_toArray, List.set_cons_zero, List.set_cons_succ, i64_w, i32_w]
                    rfl
                  refine pure_ (i := 5) (N := some 3) (v := ?_) (a' := ?_) #[true, true, true, true, true, true] rfl rfl (by kernel_rfl) (fun _ _ _ h => h) (Or.inl ⟨by rfl, ?_⟩) ?_ ?_
                  rotate_left
                  · intro w'
                    go_simp
                    with_reducible rfl
                  rotate_left
                  · simp only [Act.put, List.setIfInBounds_toArray, List.set_cons_zero, List.set_cons_succ, i64_w, i32_w]
                    rfl
                  refine done_ (by kernel_rfl) ?_
                  try go_wp2
                  go_ret2
                  exact ⟨_, by first | rfl | (simp [errW_none, errW_some] <;> rfl) | (simp [*, errW_none, errW_some] <;> rfl), by first | exact Kd.R_nil _ _ _ _ _ | exact Kd.N_nil _ _ _ _ _ | exact Kd.V_nil _ _ _ _ _ | exact Kd.Q_nil _ _ _ _ _ | exact Kd.S_nil _ _ _ _ _, by repeat (first | (with_reducible first | exact HB.out | apply below_alloc | apply pw_below_drewN | apply below_drew1 | refine below_set ?_ (IsS68.ge HI310.out)) | exact HB.out)⟩
              · rw [if_neg c14] at H
                have c14b0 : decide (x9_1 < (wrap64 (t311))) = false := decide_eq_false c14
                clear c14
                replace H := Option.bind_eq_some_iff.mp H
                obtain ⟨⟨t315, t316, t317, t318⟩, A1040, H⟩ := H
                replace H : (if t315 > 0 then (some (([] : List (S30)), 5)) else (some (x8_1, 0))) = some (r1, r2) := H
                have A104 := Aside0.mk A1040
                clear A1040
                by_cases c105 : t315 > 0
                · rw [if_pos c105] at H
                  have c105b0 : decide (0 < t315) = true := decide_eq_true c105
                  clear c105
                  simp only [Option.some.injEq, Prod.mk.injEq] at H
                  obtain ⟨rfl, rfl⟩ := H
                  go_wp2_with (first | ((with_reducible refine gate_callee (f := 43) rfl ?_); refine goesL_ (some 150) rfl rfl Try.func43 (by kernel_rfl) rfl #[.pointer (some ⟨gb310, 0, none⟩)] rfl (by (try simp only [List.map_toArray, List.map_cons, List.map_nil]); first | done | rfl | (simp only [List.length_drop, List.length_take]; rfl)) ?_; (with_reducible refine (bonsairef03_Reader_Left.calls gb310 x311000_1 x311001_1 x311002_1 t315 t316 t317 t318 w _ ?side1 ?side2 A104.out).mono ?_); (case side1 => repeat (first | (with_reducible first | exact HI310.out | apply IsS68.alloc | apply IsS68.drewN | apply IsS68.drew | apply IsS68.set_0 | apply IsS68.set_1 | apply IsS68.set_2) | exact HI310.out)); (case side2 => repeat (first | (with_reducible first | exact HB.out | apply below_alloc | apply pw_below_drewN | apply below_drew1 | refine below_set ?_ (IsS68.ge HI310.out)) | exact HB.out)); rintro e w106 ⟨rfl, hi, hb, hk⟩; refine ⟨_, rfl, ?_⟩; have n0_ := Aside0.mk (Kd.R_mono (Kd.R_keep (IsS68.apart (show IsS68 w _ gb310 x311000_1 x311001_1 x311002_1 from by repeat (first | (with_reducible first | exact HI310.out | apply IsS68.alloc | apply IsS68.drewN | apply IsS68.drew | apply IsS68.set_0 | apply IsS68.set_1 | apply IsS68.set_2) | exact HI310.out)) (by (with_reducible repeat (first | apply Kd.R_alloc | apply Kd.R_drewN | apply Kd.R_drew)); exact HO_8.out) (by decide)) hk (fun _ h => h.2)) (fun _ h => h.1)); have n1_ := Aside0.mk (hb); have n2_ := Aside0.mk (hi); clear HO_8; clear HB; clear HI310; have HO_8 := n0_; have HB := n1_; have HI310 := n2_; clear n0_ n1_ n2_; (try clear hb); (try clear hb2); (try clear hk); (try clear hi)))
                  go_ret2
                  exact ⟨_, by first | rfl | (simp [errW_none, errW_some] <;> rfl) | (simp [*, errW_none, errW_some] <;> rfl), by first | exact Kd.R_nil _ _ _ _ _ | exact Kd.N_nil _ _ _ _ _ | exact Kd.V_nil _ _ _ _ _ | exact Kd.Q_nil _ _ _ _ _ | exact Kd.S_nil _ _ _ _ _, by repeat (first | (with_reducible first | exact HB.out | apply below_alloc | apply pw_below_drewN | apply below_drew1 | refine below_set ?_ (IsS68.ge HI310.out)) | exact HB.out)⟩
                · rw [if_neg c105] at H
                  have c105b0 : decide (0 < t315) = false := decide_eq_false c105
                  clear c105
                  simp only [Option.some.injEq, Prod.mk.injEq] at H
                  obtain ⟨rfl, rfl⟩ := H
                  go_wp2_with (first | ((with_reducible refine gate_callee (f := 43) rfl ?_); refine goesL_ (some 150) rfl rfl Try.func43 (by kernel_rfl) rfl #[.pointer (some ⟨gb310, 0, none⟩)] rfl (by (try simp only [List.map_toArray, List.map_cons, List.map_nil]); first | done | rfl | (simp only [List.length_drop, List.length_take]; rfl)) ?_; (with_reducible refine (bonsairef03_Reader_Left.calls gb310 x311000_1 x311001_1 x311002_1 t315 t316 t317 t318 w _ ?side1 ?side2 A104.out).mono ?_); (case side1 => repeat (first | (with_reducible first | exact HI310.out | apply IsS68.alloc | apply IsS68.drewN | apply IsS68.drew | apply IsS68.set_0 | apply IsS68.set_1 | apply IsS68.set_2) | exact HI310.out)); (case side2 => repeat (first | (with_reducible first | exact HB.out | apply below_alloc | apply pw_below_drewN | apply below_drew1 | refine below_set ?_ (IsS68.ge HI310.out)) | exact HB.out)); rintro e w107 ⟨rfl, hi, hb, hk⟩; refine ⟨_, rfl, ?_⟩; have n0_ := Aside0.mk (Kd.R_mono (Kd.R_keep (IsS68.apart (show IsS68 w _ gb310 x311000_1 x311001_1 x311002_1 from by repeat (first | (with_reducible first | exact HI310.out | apply IsS68.alloc | apply IsS68.drewN | apply IsS68.drew | apply IsS68.set_0 | apply IsS68.set_1 | apply IsS68.set_2) | exact HI310.out)) (by (with_reducible repeat (first | apply Kd.R_alloc | apply Kd.R_drewN | apply Kd.R_drew)); exact HO_8.out) (by decide)) hk (fun _ h => h.2)) (fun _ h => h.1)); have n1_ := Aside0.mk (hb); have n2_ := Aside0.mk (hi); clear HO_8; clear HB; clear HI310; have HO_8 := n0_; have HB := n1_; have HI310 := n2_; clear n0_ n1_ n2_; (try clear hb); (try clear hb2); (try clear hk); (try clear hi)))
                  go_ret2
                  exact ⟨_, by first | rfl | (simp [errW_none, errW_some] <;> rfl) | (simp [*, errW_none, errW_some] <;> rfl), by (with_reducible repeat (first | apply Kd.R_alloc | apply Kd.R_drewN | apply Kd.R_drew)); exact HO_8.out, by repeat (first | (with_reducible first | exact HB.out | apply below_alloc | apply pw_below_drewN | apply below_drew1 | refine below_set ?_ (IsS68.ge HI310.out)) | exact HB.out)⟩
      · rw [if_neg c6] at H
        have c6b0 : (t314 == 0) = false := beq_eq_false_iff_ne.mpr c6
        have c6b1 : (t314 != 0) = true := bne_iff_ne.mpr c6
        simp only [Option.some.injEq, Prod.mk.injEq] at H
        obtain ⟨rfl, rfl⟩ := H
        go_enter Try.func14, Try.ntmps14
        try go_wp2_with (first | ((with_reducible refine gate_callee (f := 35) rfl ?_); refine goesL_ (some 21) rfl rfl Try.func35 (by kernel_rfl) rfl #[.string a0] rfl (by (try simp only [List.map_toArray, List.map_cons, List.map_nil]); first | done | rfl | (simp only [List.length_drop, List.length_take]; rfl)) ?_; (with_reducible refine (bonsairef11_Version.calls k a0 t308 t309 _ A2.out).mono ?_); rintro e w' ⟨rfl, ⟨nd, rfl⟩⟩; refine ⟨_, rfl, ?_⟩) | ((with_reducible refine gate_dst (N := 31) rfl ?_); refine box_event ?hg (N := 31) ?hd (cs := #[.string a0, .int .i64 5, .int .i64 0]) (t := 68) ?hr ?_; (case hd => rfl); (case hg => rfl); (case hr => first | (go_simp; done) | (go_simp; rfl)); intro gb310 hg w108 hbox hb; have n0_ := Aside0.mk (below_step (by repeat (first | (with_reducible first | exact HB.out | apply below_alloc | apply pw_below_drewN | apply below_drew1) | exact HB.out)) hb); have n1_ := Aside0.mk ((by rw [hg]; exact (below_size (by repeat (first | (with_reducible first | exact HB.out | apply below_alloc | apply pw_below_drewN | apply below_drew1) | exact HB.out))) : w.heap.size ≤ gb310)); have n2_ := Aside0.mk ((by rw [hg]; exact (below_size (by repeat (first | (with_reducible first | exact HB.out | apply below_alloc | apply pw_below_drewN | apply below_drew1) | exact HB.out))) : w.heap.size ≤ gb310)); have n3_ := Aside0.mk ((show IsS68 w w108 gb310 a0 5 0 from ⟨hbox, (by rw [hg]; exact (below_size (by repeat (first | (with_reducible first | exact HB.out | apply below_alloc | apply pw_below_drewN | apply below_drew1) | exact HB.out))) : w.heap.size ≤ gb310)⟩)); clear HB; have HB := n0_; have GW310 := n1_; have GE310 := n2_; have HI310 := n3_; clear n0_ n1_ n2_ n3_; clear hb hbox hg) | ((with_reducible refine gate_callee (f := 36) rfl ?_); refine goesL_ (some 33) rfl rfl Try.func36 (by kernel_rfl) rfl #[.pointer (some ⟨gb310, 0, none⟩)] rfl (by (try simp only [List.map_toArray, List.map_cons, List.map_nil]); first | done | rfl | (simp only [List.length_drop, List.length_take]; rfl)) ?_; (with_reducible refine (bonsairef03_Reader_Num.calls k gb310 a0 5 0 t311 t312 t313 t314 w _ ?side1 ?side2 A5.out).mono ?_); (case side1 => repeat (first | (with_reducible first | exact HI310.out | apply IsS68.alloc | apply IsS68.drewN | apply IsS68.drew | apply IsS68.set_0 | apply IsS68.set_1 | apply IsS68.set_2) | exact HI310.out)); (case side2 => repeat (first | (with_reducible first | exact HB.out | apply below_alloc | apply pw_below_drewN | apply below_drew1 | refine below_set ?_ (IsS68.ge HI310.out)) | exact HB.out)); rintro e w109 ⟨rfl, hi, hb, hk⟩; refine ⟨_, rfl, ?_⟩; have n0_ := Aside0.mk (hb); have n1_ := Aside0.mk (hi); clear HB; clear HI310; have HB := n0_; have HI310 := n1_; clear n0_ n1_; (try clear hb); (try clear hb2); (try clear hk); (try clear hi); obtain ⟨HGz110, hgz110⟩ := HI310.out; have hcz110_0 := cellS68_0 HGz110; have hcz110_1 := cellS68_1 HGz110; have hcz110_2 := cellS68_2 HGz110; have hfz110_0 := blk_frozen HGz110 0; have hfz110_1 := blk_frozen HGz110 1; have hfz110_2 := blk_frozen HGz110 2; clear HGz110 hgz110))
        have n0_ := Aside0.mk (IsS68.drew HI310.out)
        have n1_ := Aside0.mk (below_drew1 HB.out)
        clear HI310
        clear HB
        have HI310 := n0_
        have HB := n1_
        clear n0_ n1_
        refine start_ (n := 6) (S := fun w' => w'.cell? ⟨gb310, 0, none⟩ = some (.string t312) ∧ w'.cell? ⟨gb310, 1, none⟩ = some (.int .i64 t313) ∧ w'.cell? ⟨gb310, 2, none⟩ = some (.int .i64 t314)) (ds := []) #[false, false, false, false, false, false] (by kernel_rfl) rfl rfl ⟨(blk_cell (show IsS68 w _ gb310 t312 t313 t314 from by repeat (first | (with_reducible first | exact HI310.out | apply IsS68.alloc | apply IsS68.drewN | apply IsS68.drew | apply IsS68.set_0 | apply IsS68.set_1 | apply IsS68.set_2) | exact HI310.out)).1 0).trans rfl, (blk_cell (show IsS68 w _ gb310 t312 t313 t314 from by repeat (first | (with_reducible first | exact HI310.out | apply IsS68.alloc | apply IsS68.drewN | apply IsS68.drew | apply IsS68.set_0 | apply IsS68.set_1 | apply IsS68.set_2) | exact HI310.out)).1 1).trans rfl, (blk_cell (show IsS68 w _ gb310 t312 t313 t314 from by repeat (first | (with_reducible first | exact HI310.out | apply IsS68.alloc | apply IsS68.drewN | apply IsS68.drew | apply IsS68.set_0 | apply IsS68.set_1 | apply IsS68.set_2) | exact HI310.out)).1 2).trans rfl⟩ (fun hHeld => ?_)
        generalize w109.drew = w111 at HI310 HB hHeld ⊢
        refine pure_ (i := 0) (N := some 39) (v := ?_) (a' := ?_) #[true, false, false, false, false, false] rfl rfl (by kernel_rfl) (fun _ _ _ h => h) (Or.inl ⟨by rfl, ?_⟩) ?_ ?_
        rotate_left
        · intro w'
          go_simp
          with_reducible rfl
        rotate_left
        · simp only [Act.put, List.setIfInBounds_toArray, List.set_cons_zero, List.set_cons_succ, i64_w, i32_w]
          rfl
        refine pure_ (i := 1) (N := some 40) (v := ?_) (a' := ?_) #[true, true, false, false, false, false] rfl rfl (by kernel_rfl) (fun _ _ _ h => h) (Or.inl ⟨by rfl, ?_⟩) ?_ ?_
        rotate_left
        · intro w'
          go_simp
          with_reducible rfl
        rotate_left
        · simp only [Act.put, List.setIfInBounds_toArray, List.set_cons_zero, List.set_cons_succ, i64_w, i32_w]
          rfl
        refine pure_ (i := 2) (N := some 41) (v := ?_) (a' := ?_) #[true, true, true, false, false, false] rfl rfl (by kernel_rfl) (fun _ _ _ h => h) (Or.inl ⟨by rfl, ?_⟩) ?_ ?_
        rotate_left
        · intro w'
          go_simp
          with_reducible rfl
        rotate_left
        · simp only [Act.put, List.setIfInBounds_toArray, List.set_cons_zero, List.set_cons_succ, i64_w, i32_w]
          rfl
        refine pure_ (i := 4) (N := some 2) (v := ?_) (a' := ?_) #[true, true, true, false, true, false] rfl rfl (by kernel_rfl) (fun _ _ _ h => h) (Or.inl ⟨by rfl, ?_⟩) ?_ ?_
        rotate_left
        · intro w'
          go_simp
          with_reducible rfl
        rotate_left
        · simp only [Act.put, List.setIfInBounds_toArray, List.set_cons_zero, List.set_cons_succ, i64_w, i32_w]
          rfl
        refine take_ (i := 3) (N := some 42) (v := ?_) (a' := ?_) #[true, true, true, true, true, false] rfl rfl (by kernel_rfl) (fun _ _ _ h => h) (Or.inl ⟨by rfl, ?_⟩) hHeld ?_ ?_
        rotate_left
        · rintro w' ⟨s0, s1, s2⟩
          go_simp
          with_reducible rfl
        rotate_left
        · simp only [Act.put, List.setIfInBounds_toArray, List.set_cons_zero, List.set_cons_succ, i64_w, i32_w]
          rfl
        refine pure_ (i := 5) (N := some 3) (v := ?_) (a' := ?_) #[true, true, true, true, true, true] rfl rfl (by kernel_rfl) (fun _ _ _ h => h) (Or.inl ⟨by rfl, ?_⟩) ?_ ?_
        rotate_left
        · intro w'
          go_simp
          with_reducible rfl
        rotate_left
        · simp only [Act.put, List.setIfInBounds_toArray, List.set_cons_zero, List.set_cons_succ, i64_w, i32_w]
          rfl
        refine done_ (by kernel_rfl) ?_
        try go_wp2
        go_ret2
        exact ⟨_, by first | rfl | (simp [errW_none, errW_some] <;> rfl) | (simp [*, errW_none, errW_some] <;> rfl), by first | exact Kd.R_nil _ _ _ _ _ | exact Kd.N_nil _ _ _ _ _ | exact Kd.V_nil _ _ _ _ _ | exact Kd.Q_nil _ _ _ _ _ | exact Kd.S_nil _ _ _ _ _, by repeat (first | (with_reducible first | exact HB.out | apply below_alloc | apply pw_below_drewN | apply below_drew1 | refine below_set ?_ (IsS68.ge HI310.out)) | exact HB.out)⟩
    · rw [if_neg c4] at H
      have c4b0 : (t308 == 1) = false := beq_eq_false_iff_ne.mpr c4
      have c4b1 : (t308 != 1) = true := bne_iff_ne.mpr c4
      simp only [Option.some.injEq, Prod.mk.injEq] at H
      obtain ⟨rfl, rfl⟩ := H
      go_enter Try.func14, Try.ntmps14
      go_wp2_with (first | ((with_reducible refine gate_callee (f := 35) rfl ?_); refine goesL_ (some 21) rfl rfl Try.func35 (by kernel_rfl) rfl #[.string a0] rfl (by (try simp only [List.map_toArray, List.map_cons, List.map_nil]); first | done | rfl | (simp only [List.length_drop, List.length_take]; rfl)) ?_; (with_reducible refine (bonsairef11_Version.calls k a0 t308 t309 _ A2.out).mono ?_); rintro e w' ⟨rfl, ⟨nd, rfl⟩⟩; refine ⟨_, rfl, ?_⟩))
      go_ret2
      exact ⟨_, by first | rfl | (simp [errW_none, errW_some] <;> rfl) | (simp [*, errW_none, errW_some] <;> rfl), by first | exact Kd.R_nil _ _ _ _ _ | exact Kd.N_nil _ _ _ _ _ | exact Kd.V_nil _ _ _ _ _ | exact Kd.Q_nil _ _ _ _ _ | exact Kd.S_nil _ _ _ _ _, by repeat (first | (with_reducible first | exact HB.out | apply below_alloc | apply pw_below_drewN | apply below_drew1) | exact HB.out)⟩
  · rw [if_neg c3] at H
    have c3b0 : (t309 == 0) = false := beq_eq_false_iff_ne.mpr c3
    have c3b1 : (t309 != 0) = true := bne_iff_ne.mpr c3
    simp only [Option.some.injEq, Prod.mk.injEq] at H
    obtain ⟨rfl, rfl⟩ := H
    go_enter Try.func14, Try.ntmps14
    go_wp2_with (first | ((with_reducible refine gate_callee (f := 35) rfl ?_); refine goesL_ (some 21) rfl rfl Try.func35 (by kernel_rfl) rfl #[.string a0] rfl (by (try simp only [List.map_toArray, List.map_cons, List.map_nil]); first | done | rfl | (simp only [List.length_drop, List.length_take]; rfl)) ?_; (with_reducible refine (bonsairef11_Version.calls k a0 t308 t309 _ A2.out).mono ?_); rintro e w' ⟨rfl, ⟨nd, rfl⟩⟩; refine ⟨_, rfl, ?_⟩))
    go_ret2
    exact ⟨_, by first | rfl | (simp [errW_none, errW_some] <;> rfl) | (simp [*, errW_none, errW_some] <;> rfl), by first | exact Kd.R_nil _ _ _ _ _ | exact Kd.N_nil _ _ _ _ _ | exact Kd.V_nil _ _ _ _ _ | exact Kd.Q_nil _ _ _ _ _ | exact Kd.S_nil _ _ _ _ _, by repeat (first | (with_reducible first | exact HB.out | apply below_alloc | apply pw_below_drewN | apply below_drew1) | exact HB.out)⟩
end Go.Proofs.Ytfgnjndfnijjoaa.Print
end
section
namespace Go.Proofs.Ytfgnjndfnijjoaa.Print
open Go.RowKit Go.Proofs.YtfgnjndfnijjoaaW.PrintWords Go.Proofs.YtfgnjndfnijjoaaW.PrintLast Go.Proofs.YtfgnjndfnijjoaaW.PrintMore
attribute [local go_sem] max2_int min2_int max_two min_two max_three min_three max_four min_four
attribute [local go_sem] run_store_float
set_option linter.unusedVariables false
set_option linter.unusedSimpArgs false
def bonsailaw21_RowsReads.f (k : Nat) (a0 : ByteArray) : Option (Bool) := if (a0.size : Int) > 1000 then ((bonsailaw21_live.f k).bind fun t355 => (some t355)) else ((rows_Decode.f k a0).bind fun bt356 => ((bonsairef21_Decode.f k a0).bind fun bt360 => (if 5 + a0.size ≤ 9223372036854775807 then ((rows_Decode.f k ((⟨#[66, 78, 83, 73, 1]⟩ : ByteArray) ++ a0)).bind fun bt364 => ((bonsairef21_Decode.f k ((⟨#[66, 78, 83, 73, 1]⟩ : ByteArray) ++ a0)).bind fun bt368 => ((bonsairef13_Same.f k bt356.1 bt360.1).bind fun t372 => (if t372 = true then (if bt356.2 = bt360.2 then ((bonsairef13_Same.f k bt364.1 bt368.1).bind fun t373 => (if t373 = true then (if bt364.2 = bt368.2 then ((bonsailaw21_live.f k).bind fun t374 => (some t374)) else (none)) else (none))) else (none)) else (none))))) else (none))))
set_option maxHeartbeats 8000000 in
set_option maxRecDepth 100000 in
theorem bonsailaw21_RowsReads.calls (k : Nat) (a0 : ByteArray) (r : Bool) (w : World) (h : bonsailaw21_RowsReads.f k a0 = some r) :
    Calls Try.prog 4 #[.string a0] w fun e w' => e = .returned (.bool r) ∧ Below w.heap.size w w' := by
  have HB := Aside0.mk (Below.refl w.heap.size w)
  have H : (if (a0.size : Int) > 1000 then ((bonsailaw21_live.f k).bind fun t355 => (some t355)) else ((rows_Decode.f k a0).bind fun bt356 => ((bonsairef21_Decode.f k a0).bind fun bt360 => (if 5 + a0.size ≤ 9223372036854775807 then ((rows_Decode.f k ((⟨#[66, 78, 83, 73, 1]⟩ : ByteArray) ++ a0)).bind fun bt364 => ((bonsairef21_Decode.f k ((⟨#[66, 78, 83, 73, 1]⟩ : ByteArray) ++ a0)).bind fun bt368 => ((bonsairef13_Same.f k bt356.1 bt360.1).bind fun t372 => (if t372 = true then (if bt356.2 = bt360.2 then ((bonsairef13_Same.f k bt364.1 bt368.1).bind fun t373 => (if t373 = true then (if bt364.2 = bt368.2 then ((bonsailaw21_live.f k).bind fun t374 => (some t374)) else (none)) else (none))) else (none)) else (none))))) else (none))))) = some r := h
  clear h
  by_cases c2 : (a0.size : Int) > 1000
  · rw [if_pos c2] at H
    have c2b0 : decide (1000 < (a0.size : Int)) = true := decide_eq_true c2
    have c2b1 : decide (1000 < a0.size) = true := decide_eq_true (by omega)
    clear c2
    replace H := Option.bind_eq_some_iff.mp H
    obtain ⟨t355, A30, H⟩ := H
    replace H : (some t355) = some r := H
    have A3 := Aside0.mk A30
    clear A30
    obtain rfl := Option.some.inj H
    go_enter Try.func4, Try.ntmps4
    go_wp2_with (first | ((with_reducible refine gate_callee (f := 8) rfl ?_); refine goesL_ (some 14) rfl rfl Try.func8 (by kernel_rfl) rfl #[] rfl (by (try simp only [List.map_toArray, List.map_cons, List.map_nil]); first | done | rfl | (simp only [List.length_drop, List.length_take]; rfl)) ?_; (with_reducible refine (bonsailaw21_live.calls k  t355 _ A3.out).mono ?_); rintro e w4 ⟨rfl, hb⟩; refine ⟨_, rfl, ?_⟩; have n0_ := Aside0.mk (below_step (by repeat (first | (with_reducible first | exact HB.out | apply below_alloc | apply pw_below_drewN | apply below_drew1) | exact HB.out)) hb); clear HB; have HB := n0_; clear n0_; (try clear hb); (try clear hb2); (try clear hk); (try clear hi)))
    go_ret
    exact ⟨by first | rfl | (simp [errW_none, errW_some] <;> rfl) | (simp [*, errW_none, errW_some] <;> rfl), by repeat (first | (with_reducible first | exact HB.out | apply below_alloc | apply pw_below_drewN | apply below_drew1) | exact HB.out)⟩
  · rw [if_neg c2] at H
    have c2b0 : decide (1000 < (a0.size : Int)) = false := decide_eq_false c2
    have c2b1 : decide (1000 < a0.size) = false := decide_eq_false (by omega)
    clear c2
    replace H := Option.bind_eq_some_iff.mp H
    obtain ⟨⟨t356, t357⟩, A50, H⟩ := H
    replace H : ((bonsairef21_Decode.f k a0).bind fun bt360 => (if 5 + a0.size ≤ 9223372036854775807 then ((rows_Decode.f k ((⟨#[66, 78, 83, 73, 1]⟩ : ByteArray) ++ a0)).bind fun bt364 => ((bonsairef21_Decode.f k ((⟨#[66, 78, 83, 73, 1]⟩ : ByteArray) ++ a0)).bind fun bt368 => ((bonsairef13_Same.f k t356 bt360.1).bind fun t372 => (if t372 = true then (if t357 = bt360.2 then ((bonsairef13_Same.f k bt364.1 bt368.1).bind fun t373 => (if t373 = true then (if bt364.2 = bt368.2 then ((bonsailaw21_live.f k).bind fun t374 => (some t374)) else (none)) else (none))) else (none)) else (none))))) else (none))) = some r := H
    have A5 := Aside0.mk A50
    clear A50
    replace H := Option.bind_eq_some_iff.mp H
    obtain ⟨⟨t360, t361⟩, A60, H⟩ := H
    replace H : (if 5 + a0.size ≤ 9223372036854775807 then ((rows_Decode.f k ((⟨#[66, 78, 83, 73, 1]⟩ : ByteArray) ++ a0)).bind fun bt364 => ((bonsairef21_Decode.f k ((⟨#[66, 78, 83, 73, 1]⟩ : ByteArray) ++ a0)).bind fun bt368 => ((bonsairef13_Same.f k t356 t360).bind fun t372 => (if t372 = true then (if t357 = t361 then ((bonsairef13_Same.f k bt364.1 bt368.1).bind fun t373 => (if t373 = true then (if bt364.2 = bt368.2 then ((bonsailaw21_live.f k).bind fun t374 => (some t374)) else (none)) else (none))) else (none)) else (none))))) else (none)) = some r := H
    have A6 := Aside0.mk A60
    clear A60
    by_cases c7 : 5 + a0.size ≤ 9223372036854775807
    · rw [if_pos c7] at H
      have c7b0 := eq_true c7
      have c7b1 : decide (5 + a0.size ≤ 9223372036854775807) = true := decide_eq_true c7
      try have c7b2 : (9223372036854775807 < 5 + a0.size) = False := eq_false (Nat.not_lt.2 c7)
      try (have c7b3 := c7b2; simp only [ByteArray.size_append] at c7b3)
      clear c7
      replace H := Option.bind_eq_some_iff.mp H
      obtain ⟨⟨t364, t365⟩, A80, H⟩ := H
      replace H : ((bonsairef21_Decode.f k ((⟨#[66, 78, 83, 73, 1]⟩ : ByteArray) ++ a0)).bind fun bt368 => ((bonsairef13_Same.f k t356 t360).bind fun t372 => (if t372 = true then (if t357 = t361 then ((bonsairef13_Same.f k t364 bt368.1).bind fun t373 => (if t373 = true then (if t365 = bt368.2 then ((bonsailaw21_live.f k).bind fun t374 => (some t374)) else (none)) else (none))) else (none)) else (none)))) = some r := H
      have A8 := Aside0.mk A80
      clear A80
      replace H := Option.bind_eq_some_iff.mp H
      obtain ⟨⟨t368, t369⟩, A90, H⟩ := H
      replace H : ((bonsairef13_Same.f k t356 t360).bind fun t372 => (if t372 = true then (if t357 = t361 then ((bonsairef13_Same.f k t364 t368).bind fun t373 => (if t373 = true then (if t365 = t369 then ((bonsailaw21_live.f k).bind fun t374 => (some t374)) else (none)) else (none))) else (none)) else (none))) = some r := H
      have A9 := Aside0.mk A90
      clear A90
      replace H := Option.bind_eq_some_iff.mp H
      obtain ⟨t372, A100, H⟩ := H
      replace H : (if t372 = true then (if t357 = t361 then ((bonsairef13_Same.f k t364 t368).bind fun t373 => (if t373 = true then (if t365 = t369 then ((bonsailaw21_live.f k).bind fun t374 => (some t374)) else (none)) else (none))) else (none)) else (none)) = some r := H
      have A10 := Aside0.mk A100
      clear A100
      by_cases c11 : t372 = true
      · subst c11
        have H1 : (if t357 = t361 then ((bonsairef13_Same.f k t364 t368).bind fun t373 => (if t373 = true then (if t365 = t369 then ((bonsailaw21_live.f k).bind fun t374 => (some t374)) else (none)) else (none))) else (none)) = some r := by rw [if_pos rfl] at H; exact H
        clear H
        have H := H1
        clear H1
        by_cases c12 : t357 = t361
        · rw [if_pos c12] at H
          have c12b0 : (t357 == t361) = true := beq_iff_eq.mpr c12
          have c12b1 : (t357 != t361) = false := bne_eq_false_iff_eq.mpr c12
          clear c12
          replace H := Option.bind_eq_some_iff.mp H
          obtain ⟨t373, A130, H⟩ := H
          replace H : (if t373 = true then (if t365 = t369 then ((bonsailaw21_live.f k).bind fun t374 => (some t374)) else (none)) else (none)) = some r := H
          have A13 := Aside0.mk A130
          clear A130
          by_cases c14 : t373 = true
          · subst c14
            have H1 : (if t365 = t369 then ((bonsailaw21_live.f k).bind fun t374 => (some t374)) else (none)) = some r := by rw [if_pos rfl] at H; exact H
            clear H
            have H := H1
            clear H1
            by_cases c15 : t365 = t369
            · rw [if_pos c15] at H
              have c15b0 : (t365 == t369) = true := beq_iff_eq.mpr c15
              have c15b1 : (t365 != t369) = false := bne_eq_false_iff_eq.mpr c15
              clear c15
              replace H := Option.bind_eq_some_iff.mp H
              obtain ⟨t374, A160, H⟩ := H
              replace H : (some t374) = some r := H
              have A16 := Aside0.mk A160
              clear A160
              obtain rfl := Option.some.inj H
              go_enter Try.func4, Try.ntmps4
              go_wp2_with (first | ((with_reducible refine gate_callee (f := 13) rfl ?_); refine goesL_ (some 17) rfl rfl Try.func13 (by kernel_rfl) rfl #[.string a0] rfl (by (try simp only [List.map_toArray, List.map_cons, List.map_nil]); first | done | rfl | (simp only [List.length_drop, List.length_take]; rfl)) ?_; (with_reducible refine (rows_Decode.calls k a0 t356 t357 _ A5.out).mono ?_); rintro e w17 ⟨v358, rfl, ho0, hb⟩; refine ⟨_, rfl, ?_⟩; have n0_ := Aside0.mk (Kd.R_lower ho0 (below_size (by repeat (first | (with_reducible first | exact HB.out | apply below_alloc | apply pw_below_drewN | apply below_drew1) | exact HB.out)))); have n1_ := Aside0.mk (below_step (by repeat (first | (with_reducible first | exact HB.out | apply below_alloc | apply pw_below_drewN | apply below_drew1) | exact HB.out)) hb); clear HB; have HO359 := n0_; have HB := n1_; clear n0_ n1_; (try clear hb); (try clear hb2); (try clear hk); (try clear hi); (try clear ho0)) | ((with_reducible refine gate_callee (f := 14) rfl ?_); refine goesL_ (some 22) rfl rfl Try.func14 (by kernel_rfl) rfl #[.string a0] rfl (by (try simp only [List.map_toArray, List.map_cons, List.map_nil]); first | done | rfl | (simp only [List.length_drop, List.length_take]; rfl)) ?_; (with_reducible refine (bonsairef21_Decode.calls k a0 t360 t361 _ A6.out).mono ?_); rintro e w18 ⟨v362, rfl, ho0, hb⟩; refine ⟨_, rfl, ?_⟩; have n0_ := Aside0.mk (Kd.R_elder' (by (with_reducible repeat (first | apply Kd.R_alloc | apply Kd.R_drewN | apply Kd.R_drew)); exact HO359.out) (Kd.R_base ho0) hb); have n1_ := Aside0.mk (Kd.R_lower (Kd.R_new' ho0 (Kd.R_lt (by (with_reducible repeat (first | apply Kd.R_alloc | apply Kd.R_drewN | apply Kd.R_drew)); exact HO359.out))) (below_size (by repeat (first | (with_reducible first | exact HB.out | apply below_alloc | apply pw_below_drewN | apply below_drew1) | exact HB.out)))); have n2_ := Aside0.mk (below_step (by repeat (first | (with_reducible first | exact HB.out | apply below_alloc | apply pw_below_drewN | apply below_drew1) | exact HB.out)) hb); clear HO359; clear HB; have HO359 := n0_; have HO363 := n1_; have HB := n2_; clear n0_ n1_ n2_; (try clear hb); (try clear hb2); (try clear hk); (try clear hi); (try clear ho0)) | ((with_reducible refine gate_callee (f := 13) rfl ?_); refine goesL_ (some 28) rfl rfl Try.func13 (by kernel_rfl) rfl #[.string ((⟨#[66, 78, 83, 73, 1]⟩ : ByteArray) ++ a0)] rfl (by (try simp only [List.map_toArray, List.map_cons, List.map_nil]); first | done | rfl | (simp only [List.length_drop, List.length_take]; rfl)) ?_; (with_reducible refine (rows_Decode.calls k ((⟨#[66, 78, 83, 73, 1]⟩ : ByteArray) ++ a0) t364 t365 _ A8.out).mono ?_); rintro e w19 ⟨v366, rfl, ho0, hb⟩; refine ⟨_, rfl, ?_⟩; have n0_ := Aside0.mk (Kd.R_elder' (by (with_reducible repeat (first | apply Kd.R_alloc | apply Kd.R_drewN | apply Kd.R_drew)); exact HO359.out) (Kd.R_base ho0) hb); have n1_ := Aside0.mk (Kd.R_elder' (by (with_reducible repeat (first | apply Kd.R_alloc | apply Kd.R_drewN | apply Kd.R_drew)); exact HO363.out) (Kd.R_base ho0) hb); have n2_ := Aside0.mk (Kd.R_lower (Kd.R_new' (Kd.R_new' ho0 (Kd.R_lt (by (with_reducible repeat (first | apply Kd.R_alloc | apply Kd.R_drewN | apply Kd.R_drew)); exact HO359.out))) (Kd.R_lt (by (with_reducible repeat (first | apply Kd.R_alloc | apply Kd.R_drewN | apply Kd.R_drew)); exact HO363.out))) (below_size (by repeat (first | (with_reducible first | exact HB.out | apply below_alloc | apply pw_below_drewN | apply below_drew1) | exact HB.out)))); have n3_ := Aside0.mk (below_step (by repeat (first | (with_reducible first | exact HB.out | apply below_alloc | apply pw_below_drewN | apply below_drew1) | exact HB.out)) hb); clear HO359; clear HO363; clear HB; have HO359 := n0_; have HO363 := n1_; have HO367 := n2_; have HB := n3_; clear n0_ n1_ n2_ n3_; (try clear hb); (try clear hb2); (try clear hk); (try clear hi); (try clear ho0)) | ((with_reducible refine gate_callee (f := 14) rfl ?_); refine goesL_ (some 34) rfl rfl Try.func14 (by kernel_rfl) rfl #[.string ((⟨#[66, 78, 83, 73, 1]⟩ : ByteArray) ++ a0)] rfl (by (try simp only [List.map_toArray, List.map_cons, List.map_nil]); first | done | rfl | (simp only [List.length_drop, List.length_take]; rfl)) ?_; (with_reducible refine (bonsairef21_Decode.calls k ((⟨#[66, 78, 83, 73, 1]⟩ : ByteArray) ++ a0) t368 t369 _ A9.out).mono ?_); rintro e w20 ⟨v370, rfl, ho0, hb⟩; refine ⟨_, rfl, ?_⟩; have n0_ := Aside0.mk (Kd.R_elder' (by (with_reducible repeat (first | apply Kd.R_alloc | apply Kd.R_drewN | apply Kd.R_drew)); exact HO359.out) (Kd.R_base ho0) hb); have n1_ := Aside0.mk (Kd.R_elder' (by (with_reducible repeat (first | apply Kd.R_alloc | apply Kd.R_drewN | apply Kd.R_drew)); exact HO363.out) (Kd.R_base ho0) hb); have n2_ := Aside0.mk (Kd.R_elder' (by (with_reducible repeat (first | apply Kd.R_alloc | apply Kd.R_drewN | apply Kd.R_drew)); exact HO367.out) (Kd.R_base ho0) hb); have n3_ := Aside0.mk (Kd.R_lower (Kd.R_new' (Kd.R_new' (Kd.R_new' ho0 (Kd.R_lt (by (with_reducible repeat (first | apply Kd.R_alloc | apply Kd.R_drewN | apply Kd.R_drew)); exact HO359.out))) (Kd.R_lt (by (with_reducible repeat (first | apply Kd.R_alloc | apply Kd.R_drewN | apply Kd.R_drew)); exact HO363.out))) (Kd.R_lt (by (with_reducible repeat (first | apply Kd.R_alloc | apply Kd.R_drewN | apply Kd.R_drew)); exact HO367.out))) (below_size (by repeat (first | (with_reducible first | exact HB.out | apply below_alloc | apply pw_below_drewN | apply below_drew1) | exact HB.out)))); have n4_ := Aside0.mk (below_step (by repeat (first | (with_reducible first | exact HB.out | apply below_alloc | apply pw_below_drewN | apply below_drew1) | exact HB.out)) hb); clear HO359; clear HO363; clear HO367; clear HB; have HO359 := n0_; have HO363 := n1_; have HO367 := n2_; have HO371 := n3_; have HB := n4_; clear n0_ n1_ n2_ n3_ n4_; (try clear hb); (try clear hb2); (try clear hk); (try clear hi); (try clear ho0); obtain ⟨Ao21, co21, eo21⟩ := Kd.R_slice HO359.out; subst eo21; obtain ⟨Ao22, co22, eo22⟩ := Kd.R_slice HO363.out; subst eo22) | ((with_reducible refine gate_callee (f := 15) rfl ?_); refine goesL_ (some 39) rfl rfl Try.func15 (by kernel_rfl) rfl #[.slice Ao21 t356.length co21, .slice Ao22 t360.length co22] rfl (by (try simp only [List.map_toArray, List.map_cons, List.map_nil]); first | done | rfl | (simp only [List.length_drop, List.length_take]; rfl)) ?_; (with_reducible refine (bonsairef13_Same.calls k _ _ t356 _ _ t360 true _ ?side1 ?side2 ?side3 ?side4 A10.out).mono ?_); (case side1 => repeat (first | exact (Kd.R_reads' HO359.out).2.2 | (with_reducible refine Kd.C_alloc ?_ _) | (with_reducible refine Kd.C_drewN ?_ _) | (with_reducible refine Kd.C_drew ?_))); (case side2 => exact (Kd.R_reads' HO359.out).2.1); (case side3 => repeat (first | exact (Kd.R_reads' HO363.out).2.2 | (with_reducible refine Kd.C_alloc ?_ _) | (with_reducible refine Kd.C_drewN ?_ _) | (with_reducible refine Kd.C_drew ?_))); (case side4 => exact (Kd.R_reads' HO363.out).2.1); rintro e w23 ⟨rfl, hb⟩; refine ⟨_, rfl, ?_⟩; have n0_ := Aside0.mk (Kd.R_below (by (with_reducible repeat (first | apply Kd.R_alloc | apply Kd.R_drewN | apply Kd.R_drew)); exact HO359.out) hb); have n1_ := Aside0.mk (Kd.R_below (by (with_reducible repeat (first | apply Kd.R_alloc | apply Kd.R_drewN | apply Kd.R_drew)); exact HO363.out) hb); have n2_ := Aside0.mk (Kd.R_below (by (with_reducible repeat (first | apply Kd.R_alloc | apply Kd.R_drewN | apply Kd.R_drew)); exact HO367.out) hb); have n3_ := Aside0.mk (Kd.R_below (by (with_reducible repeat (first | apply Kd.R_alloc | apply Kd.R_drewN | apply Kd.R_drew)); exact HO371.out) hb); have n4_ := Aside0.mk (below_step (by repeat (first | (with_reducible first | exact HB.out | apply below_alloc | apply pw_below_drewN | apply below_drew1) | exact HB.out)) hb); clear HO359; clear HO363; clear HO367; clear HO371; clear HB; have HO359 := n0_; have HO363 := n1_; have HO367 := n2_; have HO371 := n3_; have HB := n4_; clear n0_ n1_ n2_ n3_ n4_; (try clear hb); (try clear hb2); (try clear hk); (try clear hi); obtain ⟨Ao24, co24, eo24⟩ := Kd.R_slice HO367.out; subst eo24; obtain ⟨Ao25, co25, eo25⟩ := Kd.R_slice HO371.out; subst eo25) | (go_at_call 15; (with_reducible refine (bonsairef13_Same.calls k _ _ t364 _ _ t368 true _ ?side1 ?side2 ?side3 ?side4 A13.out).mono ?_); (case side1 => repeat (first | exact (Kd.R_reads' HO367.out).2.2 | (with_reducible refine Kd.C_alloc ?_ _) | (with_reducible refine Kd.C_drewN ?_ _) | (with_reducible refine Kd.C_drew ?_))); (case side2 => exact (Kd.R_reads' HO367.out).2.1); (case side3 => repeat (first | exact (Kd.R_reads' HO371.out).2.2 | (with_reducible refine Kd.C_alloc ?_ _) | (with_reducible refine Kd.C_drewN ?_ _) | (with_reducible refine Kd.C_drew ?_))); (case side4 => exact (Kd.R_reads' HO371.out).2.1); rintro e w26 ⟨rfl, hb⟩; have n0_ := Aside0.mk (Kd.R_below (by (with_reducible repeat (first | apply Kd.R_alloc | apply Kd.R_drewN | apply Kd.R_drew)); exact HO359.out) hb); have n1_ := Aside0.mk (Kd.R_below (by (with_reducible repeat (first | apply Kd.R_alloc | apply Kd.R_drewN | apply Kd.R_drew)); exact HO363.out) hb); have n2_ := Aside0.mk (Kd.R_below (by (with_reducible repeat (first | apply Kd.R_alloc | apply Kd.R_drewN | apply Kd.R_drew)); exact HO367.out) hb); have n3_ := Aside0.mk (Kd.R_below (by (with_reducible repeat (first | apply Kd.R_alloc | apply Kd.R_drewN | apply Kd.R_drew)); exact HO371.out) hb); have n4_ := Aside0.mk (below_step (by repeat (first | (with_reducible first | exact HB.out | apply below_alloc | apply pw_below_drewN | apply below_drew1) | exact HB.out)) hb); clear HO359; clear HO363; clear HO367; clear HO371; clear HB; have HO359 := n0_; have HO363 := n1_; have HO367 := n2_; have HO371 := n3_; have HB := n4_; clear n0_ n1_ n2_ n3_ n4_; (try clear hb); (try clear hb2); (try clear hk); (try clear hi)) | (go_at_call 8; (with_reducible refine (bonsailaw21_live.calls k  t374 _ A16.out).mono ?_); rintro e w27 ⟨rfl, hb⟩; have n0_ := Aside0.mk (Kd.R_below (by (with_reducible repeat (first | apply Kd.R_alloc | apply Kd.R_drewN | apply Kd.R_drew)); exact HO359.out) hb); have n1_ := Aside0.mk (Kd.R_below (by (with_reducible repeat (first | apply Kd.R_alloc | apply Kd.R_drewN | apply Kd.R_drew)); exact HO363.out) hb); have n2_ := Aside0.mk (Kd.R_below (by (with_reducible repeat (first | apply Kd.R_alloc | apply Kd.R_drewN | apply Kd.R_drew)); exact HO367.out) hb); have n3_ := Aside0.mk (Kd.R_below (by (with_reducible repeat (first | apply Kd.R_alloc | apply Kd.R_drewN | apply Kd.R_drew)); exact HO371.out) hb); have n4_ := Aside0.mk (below_step (by repeat (first | (with_reducible first | exact HB.out | apply below_alloc | apply pw_below_drewN | apply below_drew1) | exact HB.out)) hb); clear HO359; clear HO363; clear HO367; clear HO371; clear HB; have HO359 := n0_; have HO363 := n1_; have HO367 := n2_; have HO371 := n3_; have HB := n4_; clear n0_ n1_ n2_ n3_ n4_; (try clear hb); (try clear hb2); (try clear hk); (try clear hi)))
              go_ret
              exact ⟨by first | rfl | (simp [errW_none, errW_some] <;> rfl) | (simp [*, errW_none, errW_some] <;> rfl), by repeat (first | (with_reducible first | exact HB.out | apply below_alloc | apply pw_below_drewN | apply below_drew1) | exact HB.out)⟩
            · rw [if_neg c15] at H
              exact absurd H (by simp)
          · replace c14 := Bool.eq_false_iff.mpr c14
            subst c14
            have H1 : (none) = some r := by rw [if_neg (show ¬ (false = true) by decide)] at H; exact H
            clear H
            have H := H1
            clear H1
            exact absurd H (by simp)
        · rw [if_neg c12] at H
          exact absurd H (by simp)
      · replace c11 := Bool.eq_false_iff.mpr c11
        subst c11
        have H1 : (none) = some r := by rw [if_neg (show ¬ (false = true) by decide)] at H; exact H
        clear H
        have H := H1
        clear H1
        exact absurd H (by simp)
    · rw [if_neg c7] at H
      exact absurd H (by simp)
def bonsailaw21_RowsReads.Pure : Prop := ∀ (a0 : ByteArray), a0.size ≤ 140737488351232 → ∃ k, bonsailaw21_RowsReads.f k a0 = some true
theorem bonsailaw21_RowsReads.walk (P : bonsailaw21_RowsReads.Pure) (a0 : ByteArray) (w : World) (w0 : a0.size ≤ 140737488351232) :
    Calls Try.prog 4 #[.string a0] w fun e w' => e = .returned (.bool true) ∧ Below w.heap.size w w' := by
  obtain ⟨k, h⟩ := P a0 w0
  refine (bonsailaw21_RowsReads.calls k a0 true w h).mono ?_
  rintro e w' ⟨rfl, hd⟩
  exact ⟨rfl, hd⟩
end Go.Proofs.Ytfgnjndfnijjoaa.Print
end
namespace Go.Proofs.Ytfgnjndfnijjoaa.Print
end Go.Proofs.Ytfgnjndfnijjoaa.Print
namespace Go.Proofs.Ytfgnjndfnijjoaa.Print
end Go.Proofs.Ytfgnjndfnijjoaa.Print
namespace Go.Proofs.Ytfgnjndfnijjoaa.Print
end Go.Proofs.Ytfgnjndfnijjoaa.Print
section
namespace Go.Proofs.Ytfgnjndfnijjoaa.LibA
open Go.RowKit Go.Proofs.Ytfgnjndfnijjoaa.Print Go.Proofs.YtfgnjndfnijjoaaW.PrintWords Go.Proofs.YtfgnjndfnijjoaaW.PrintLast
def SgAt (s : ByteArray) (i m : Int) : Prop :=
  (sgH (bt s i)).2.2.2 = true ∧ m = 1 + (sgH (bt s i)).1 ∧ i + m ≤ s.size ∧ sgR s (sgH (bt s i)).1.toNat (i + 1) (sgH (bt s i)).2.1 (sgH (bt s i)).2.2.1 = true
theorem sgStep_some {s : ByteArray} {i m : Int} : sgStep s i = some m ↔ SgAt s i m := by
  unfold sgStep SgAt
  constructor
  · intro h
    split at h
    · cases h
    · split at h
      · cases h
      · split at h
        · cases h
          rename_i h1 h2 h3
          exact ⟨by simpa using h1, rfl, by omega, h3⟩
        · cases h
  · rintro ⟨h1, rfl, h3, h4⟩
    rw [if_neg (by simp [h1]), if_neg (by omega), if_pos h4]
theorem SgAt.pos {s : ByteArray} {i m : Int} (h : SgAt s i m) : 1 ≤ m ∧ m ≤ 4 ∧ i + m ≤ s.size := by
  have := sgH_rest (bt s i)
  obtain ⟨_, rfl, h3, _⟩ := h
  omega
theorem SgAt.det {s : ByteArray} {i m m' : Int} (h : SgAt s i m) (h' : SgAt s i m') : m = m' := by
  rw [h.2.1, h'.2.1]
inductive Ch (s : ByteArray) : Nat → Int → Int → Prop
  | nil (i : Int) : Ch s 0 i i
  | cons {n : Nat} {i m j : Int} (h : SgAt s i m) (t : Ch s n (i + m) j) : Ch s (n + 1) i j
theorem Ch.le {s : ByteArray} {n : Nat} {i j : Int} (h : Ch s n i j) : i + n ≤ j ∧ j ≤ i + 4 * n := by
  induction h with
  | nil => omega
  | cons h t ih => have := h.pos; omega
theorem Ch.size {s : ByteArray} {n : Nat} {i j : Int} (h : Ch s n i j) (hi : i ≤ s.size) : j ≤ s.size := by
  induction h with
  | nil => exact hi
  | cons h t ih => exact ih h.pos.2.2
theorem Ch.snoc {s : ByteArray} {n : Nat} {i j m : Int} (h : Ch s n i j) (hm : SgAt s j m) : Ch s (n + 1) i (j + m) := by
  induction h with
  | nil => exact .cons hm (.nil _)
  | cons h t ih => exact .cons h (ih hm)
theorem Ch.trans {s : ByteArray} {n n' : Nat} {i j k : Int} (h : Ch s n i j) (h' : Ch s n' j k) : Ch s (n + n') i k := by
  induction h with
  | nil => simpa using h'
  | cons h t ih => rw [show ∀ a b : Nat, a + 1 + b = (a + b) + 1 by omega]; exact .cons h (ih h')
theorem Ch.split {s : ByteArray} {n n' : Nat} {i j j' : Int} (h : Ch s n i j) (h' : Ch s n' i j') : (∃ c, n' = n + c ∧ Ch s c j j') ∨ (∃ c m, SgAt s j' m ∧ Ch s c (j' + m) j) := by
  induction h generalizing n' with
  | nil => exact .inl ⟨n', by omega, h'⟩
  | cons h t ih =>
    cases h' with
    | nil => exact .inr ⟨_, _, h, t⟩
    | cons h2 t2 =>
      have := h.det h2
      subst this
      rcases ih t2 with ⟨c, hc, hch⟩ | r
      · exact .inl ⟨c, by omega, hch⟩
      · exact .inr r
theorem sgL_ch (s : ByteArray) : ∀ (k : Nat) (n i : Int), 0 ≤ i → i ≤ s.size → (s.size : Int) - i < k → ∃ c : Nat, ∃ j : Int, sgL s k n i = (n + c, j) ∧ Ch s c i j ∧ j ≤ s.size ∧ ∀ m, ¬ SgAt s j m
  | 0, n, i, h0, h1, hk => by omega
  | k + 1, n, i, h0, h1, hk => by
    simp only [sgL]
    by_cases hi : i < (s.size : Int)
    · rw [if_pos hi]
      cases hs : sgStep s i with
      | none => exact ⟨0, i, by simp, .nil _, h1, fun m hm => by rw [sgStep_some.mpr hm] at hs; cases hs⟩
      | some m =>
        have hm := sgStep_some.mp hs
        have := hm.pos
        obtain ⟨c, j, h, hc, hj, hn⟩ := sgL_ch s k (n + 1) (i + m) (by omega) (by omega) (by omega)
        exact ⟨c + 1, j, by show sgL s k (n + 1) (i + m) = _; rw [h, show n + 1 + (c : Int) = n + ((c + 1 : Nat) : Int) by omega], .cons hm hc, hj, hn⟩
    · rw [if_neg hi]
      refine ⟨0, i, by simp, .nil _, h1, fun m hm => ?_⟩
      have := hm.pos
      omega
theorem signs_ch (s : ByteArray) : ∃ c : Nat, ∃ j : Int, sgL s (s.size + 1) 0 0 = ((c : Int), j) ∧ Ch s c 0 j ∧ 0 ≤ j ∧ j ≤ s.size ∧ ∀ m, ¬ SgAt s j m := by
  obtain ⟨c, j, h, hc, hj, hn⟩ := sgL_ch s (s.size + 1) 0 0 (by omega) (by omega) (by omega)
  exact ⟨c, j, by rw [h]; simp, hc, by have := hc.le; omega, hj, hn⟩
def Vld (s : ByteArray) : Prop := ∃ c, Ch s c 0 s.size
theorem vld_iff {s : ByteArray} {c : Nat} {j : Int} (h : Ch s c 0 j) (hn : ∀ m, ¬ SgAt s j m) (hj : j ≤ s.size) : Vld s ↔ j = s.size := by
  constructor
  · rintro ⟨c', h'⟩
    rcases h.split h' with ⟨c2, _, h2⟩ | ⟨c2, m, hm, h2⟩
    · cases h2 with
      | nil => rfl
      | cons hm _ => exact absurd hm (hn _)
    · have := hm.pos
      omega
  · rintro rfl
    exact ⟨c, h⟩
theorem bt_take {s : ByteArray} {n : Nat} (hn : n ≤ s.size) {d : Int} (h0 : 0 ≤ d) (h1 : d < n) : bt (s.extract 0 n) d = bt s d := by
  unfold bt
  rw [dif_pos (by rw [ByteArray.size_extract]; omega), dif_pos (by omega)]
  simp [ByteArray.getElem_extract]
theorem bt_drop {s : ByteArray} {a n : Nat} (hn : n ≤ s.size) {d : Int} (h0 : 0 ≤ d) (h1 : a + d < n) : bt (s.extract a n) d = bt s (a + d) := by
  unfold bt
  rw [dif_pos (by rw [ByteArray.size_extract]; omega), dif_pos (by omega)]
  have e : a + d.toNat = ((a : Int) + d).toNat := by omega
  simp only [ByteArray.getElem_extract, e]
theorem size_take {s : ByteArray} {n : Nat} (hn : n ≤ s.size) : (s.extract 0 n).size = n := by rw [ByteArray.size_extract]; omega
end Go.Proofs.Ytfgnjndfnijjoaa.LibA
end
