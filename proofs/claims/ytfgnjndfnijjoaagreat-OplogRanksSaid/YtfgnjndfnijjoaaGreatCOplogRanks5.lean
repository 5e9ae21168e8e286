/- Part 5 of what OplogRanks stands on: merged by a program of this session out of its texts. -/
import Derived.Test.YtfgnjndfnijjoaaGreatCOplogRanks4
section
namespace Go.Proofs.YtfgnjndfnijjoaaGreat.Print
open Go.RowKit Go.Proofs.YtfgnjndfnijjoaaGreatW.PrintWords Go.Proofs.YtfgnjndfnijjoaaGreatW.PrintLast Go.Proofs.YtfgnjndfnijjoaaGreatW.PrintMore
attribute [local go_sem] dJ dK eF eG cZ dc dL dM
attribute [local go_sem] bH
set_option linter.unusedVariables false
set_option linter.unusedSimpArgs false
def iJ.f (a0_0 : Int) (a0_1 : Int) (a0_2 : Int) (a0_3 : Int) (a0_4 : ByteArray) (a0_5 : Int) : Option (Int × Int × ByteArray × Int) := some (a0_3, a0_2, a0_4, a0_5)
set_option maxHeartbeats 8000000 in
set_option maxRecDepth 100000 in
theorem iJ.calls (a0_0 : Int) (a0_1 : Int) (a0_2 : Int) (a0_3 : Int) (a0_4 : ByteArray) (cO : Nat) (a0_5 : Int) (r1 : Int) (r2 : Int) (r3 : ByteArray) (r4 : Int) (w : World) (DV : FB cO a0_5) (h : iJ.f a0_0 a0_1 a0_2 a0_3 a0_4 a0_5 = some (r1, r2, r3, r4)) :
 Calls Tryz.prog 134 #[.agg #[.int .i64 a0_0, .int .i64 a0_1, .int .i64 a0_2, .int .i64 a0_3, .string a0_4, .float .f64 cO]] w fun e w' => ∃ b3_ : Nat, e = .returned (.agg #[.int .i64 r1, .int .i64 r2, .string r3, .float .f64 b3_]) ∧ FB b3_ r4 ∧ Below w.heap.size w w' := by
 have hu51 := Tryz.underlying51; have hu155 := Tryz.underlying155; have HB := Aside0.mk (Below.refl w.heap.size w); have H := h; unfold iJ.f at H; clear h; simp only [Option.some.injEq, Prod.mk.injEq] at H; obtain ⟨rfl, rfl, rfl, rfl⟩ := H; go_enter Tryz.func134, Tryz.ntmps134
 go_wp2_with (first | ((with_reducible refine bG (N := 1) rfl ?_); refine bW ?hg (N := 1) ?hd (cs := #[.int .i64 a0_0, .int .i64 a0_1, .int .i64 a0_2, .int .i64 a0_3, .string a0_4, .float .f64 cO]) (t := 51) ?hr ?_; (case hd => rfl); (case hg => rfl); (case hr => first | (go_simp; done) | (go_simp; rfl)); intro lM hg w2 hbox hb; have jT := am (hbox); have Us := am ((by rw [hg]; exact (ai (hz HB.out)) : w.heap.size ≤ lM)); have Ad := am ((by rw [hg]; exact (ai (hz HB.out)) : w.heap.size ≤ lM)); replace HB := sb HB hb; clear hb hbox hg) | ((with_reducible refine bG (N := 2) rfl ?_); refine bW ?hg (N := 2) ?hd (cs := #[.int .i64 0, .int .i64 0, .string (⟨#[]⟩ : ByteArray), .float .f64 0]) (t := 155) ?hr ?_; (case hd => rfl); (case hg => rfl); (case hr => first | (go_simp; done) | (go_simp; rfl)); intro oQ hg w3 hbox hb; have oR := am (hbox); have Ut := am ((by rw [hg]; exact (ai (hz1 HB.out Ad.out)) : w.heap.size ≤ oQ)); have Pu := am ((by rw [hg]; exact (ai (hz1 HB.out Ad.out)) : w.heap.size ≤ oQ)); replace HB := am (aM (hz1 HB.out Ad.out) hb); have Gd := am ((by rw [hg]; exact Nat.ne_of_lt (cY (g := lM) (o := .cells #[.int .i64 a0_0, .int .i64 a0_1, .int .i64 a0_2, .int .i64 a0_3, .string a0_4, .float .f64 cO] 51 (0, 0)) (kz jT.out)) : lM ≠ oQ)); have Ge := am ((by rw [hg]; exact Nat.ne_of_gt (cY (g := lM) (o := .cells #[.int .i64 a0_0, .int .i64 a0_1, .int .i64 a0_2, .int .i64 a0_3, .string a0_4, .float .f64 cO] 51 (0, 0)) (kz jT.out)) : oQ ≠ lM)); replace jT := am (aX (g := lM) (o := .cells #[.int .i64 a0_0, .int .i64 a0_1, .int .i64 a0_2, .int .i64 a0_3, .string a0_4, .float .f64 cO] 51 (0, 0)) (kz jT.out) hb); clear hb hbox hg; have hnb4 := Gd.out; have hnc4 := Ge.out; have LU : w3.cell? ⟨lM, 0, none⟩ = some (.int .i64 a0_0) := (af jT.out 0).trans rfl; have LV : w3.cell? ⟨lM, 1, none⟩ = some (.int .i64 a0_1) := (af jT.out 1).trans rfl; have LW : w3.cell? ⟨lM, 2, none⟩ = some (.int .i64 a0_2) := (af jT.out 2).trans rfl; have LX : w3.cell? ⟨lM, 3, none⟩ = some (.int .i64 a0_3) := (af jT.out 3).trans rfl; have LY : w3.cell? ⟨lM, 4, none⟩ = some (.string a0_4) := (af jT.out 4).trans rfl; have L5 : w3.cell? ⟨lM, 5, none⟩ = some (.float .f64 cO) := (af jT.out 5).trans rfl; have L6 := aj jT.out 0; have L7 := aj jT.out 1; have L8 := aj jT.out 2; have L9 := aj jT.out 3; have Ma := aj jT.out 4; have Mb := aj jT.out 5; have Mc : w3.cell? ⟨oQ, 0, none⟩ = some (.int .i64 0) := (af oR.out 0).trans rfl; have Md : w3.cell? ⟨oQ, 1, none⟩ = some (.int .i64 0) := (af oR.out 1).trans rfl; have Me : w3.cell? ⟨oQ, 2, none⟩ = some (.string (⟨#[]⟩ : ByteArray)) := (af oR.out 2).trans rfl; have Mf : w3.cell? ⟨oQ, 3, none⟩ = some (.float .f64 0) := (af oR.out 3).trans rfl; have Mg := aj oR.out 0; have Mh := aj oR.out 1; have Mi := aj oR.out 2; have Mj := aj oR.out 3))
 refine bodyPost_ret (results_cell_row rfl _ _ oQ 155 #[.int .i64 a0_3, .int .i64 a0_2, .string a0_4, .float .f64 cO] (0, 0) _ rfl (by (with_reducible repeat (first | refine bz ?_ _ | refine cQ ?_ | refine bx ?_ _)); refine fO (cs := #[.int .i64 a0_3, .int .i64 a0_2, .string a0_4, .float .f64 0]) ?_ 3 _ rfl; (with_reducible repeat (first | refine bz ?_ _ | refine cQ ?_ | refine bx ?_ _)); refine fO (cs := #[.int .i64 a0_3, .int .i64 a0_2, .string (⟨#[]⟩ : ByteArray), .float .f64 0]) ?_ 2 _ rfl; (with_reducible repeat (first | refine bz ?_ _ | refine cQ ?_ | refine bx ?_ _)); refine fO (cs := #[.int .i64 a0_3, .int .i64 0, .string (⟨#[]⟩ : ByteArray), .float .f64 0]) ?_ 1 _ rfl; (with_reducible repeat (first | refine bz ?_ _ | refine cQ ?_ | refine bx ?_ _)); refine fO (cs := #[.int .i64 0, .int .i64 0, .string (⟨#[]⟩ : ByteArray), .float .f64 0]) ?_ 0 _ rfl; (with_reducible repeat (first | refine bz ?_ _ | refine cQ ?_ | refine bx ?_ _)); exact oR.out) Tryz.underlying155 rfl (by kernel_rfl)) rfl ?_; exact ⟨_, ez, fz, by repeat (first | (with_reducible first | exact HB.out | apply aH | apply aG | apply bw | refine bM ?_ Ad.out | refine bM ?_ Pu.out) | exact HB.out)⟩
def pF.f  : Option (Int) := some 9221120237041090560
set_option maxHeartbeats 8000000 in
set_option maxRecDepth 100000 in
theorem gI.jV (b : Nat) (s : Bool) (w : World) (h1 : (FloatKind.f64.format.order b 0 == some .lt) = s) (h2 : (FloatKind.f64.format.order b 0 == some .eq) = false) :
    Calls Tryz.prog 114 #[.float .f64 b] w fun e w' => e = .returned (.bool s) ∧ bP w w' := by
 go_enter Tryz.func114, Tryz.ntmps114
 cases s
 ·
  go_wp2
  go_ret
  exact ⟨rfl, bP.refl _⟩
 ·
  go_wp2
  go_ret
  exact ⟨rfl, bP.refl _⟩
set_option maxHeartbeats 8000000 in
set_option maxRecDepth 100000 in
theorem gI.tA (s : Bool) (w : World) :
    Calls Tryz.prog 114 #[.float .f64 (Fl.zero s)] w fun e w' => e = .returned (.bool s) ∧ bP w w' := by
 have h1 : (FloatKind.f64.format.order (Fl.zero s) 0 == some .lt) = false := by cases s <;> decide
 have h2 : (FloatKind.f64.format.order (Fl.zero s) 0 == some .eq) = true := by cases s <;> decide
 have h3 : ∀ W, (binOp .quo 49 (.float .f64 4607182418800017408) (.float .f64 (Fl.zero s))).run Tryz.prog W = .ok (.float .f64 (Fl.inf s)) W := fun W => run_float_arith W .quo 49 .f64 _ _ _ (by cases s <;> decide)
 have h4 : (FloatKind.f64.format.order (Fl.inf s) 0 == some .lt) = s := by cases s <;> decide
 go_enter Tryz.func114, Tryz.ntmps114
 go_wp2
 go_ret
 exact ⟨rfl, bP.refl _⟩
def dx.f (a0 : Int) : Option Int := some a0
set_option maxHeartbeats 8000000 in
set_option maxRecDepth 100000 in
theorem mG (w : World) : Calls Tryz.prog 113 #[] w fun e w' => e = .returned (.int .u64 9221120237041090560) ∧ w' = w := by
 go_enter Tryz.func113, Tryz.ntmps113
 go_wp2
 go_ret
 exact ⟨rfl, rfl⟩
set_option maxHeartbeats 8000000 in
set_option maxRecDepth 100000 in
theorem ju (w : World) : Calls Tryz.prog 115 #[] w fun e w' => e = .returned (.int .u64 9223372036854775808) ∧ w' = w := by
 go_enter Tryz.func115, Tryz.ntmps115
 go_wp2
 go_ret
 exact ⟨rfl, rfl⟩
set_option maxHeartbeats 8000000 in
set_option maxRecDepth 100000 in
theorem dx.nan (bv0 : Nat) (w : World) (hn : 9218868437227405312 < bv0 % 9223372036854775808) :
    Calls Tryz.prog 51 #[.float .f64 bv0] w fun e_ w' => e_ = .returned (.int .u64 (dD bv0 : Nat)) ∧ Below w.heap.size w w' := by
 have h1 := (Fl.pK hn 0).1; have h2 := (Fl.pK hn bv0).1; have g1 : (FloatKind.f64.format.order bv0 0 == some .lt) = false := by show (Ieee.double.order bv0 0 == some .lt) = false; rw [h1]; rfl
 have g2 : (FloatKind.f64.format.order bv0 0 == some .eq) = false := by show (Ieee.double.order bv0 0 == some .eq) = false; rw [h1]; rfl
 have g3 : (FloatKind.f64.format.order bv0 bv0 != some .eq) = true := by show (Ieee.double.order bv0 bv0 != some .eq) = true; rw [h2]; rfl
 have hc : dD bv0 = 9221120237041090560 := by unfold dD; rw [if_pos hn]
 rw [hc]; clear h1 h2; go_enter Tryz.func51, Tryz.ntmps51
 go_wp2_with (first | (go_at_call 114; (with_reducible refine (gI.jV _ false _ g1 g2).mono ?_); rintro e' w1 ⟨rfl, nd, rfl⟩) | (go_at_call 113; (with_reducible refine (mG _).mono ?_); rintro e' w1 ⟨rfl, rfl⟩) | (go_at_call 115; (with_reducible refine (ju _).mono ?_); rintro e' w1 ⟨rfl, rfl⟩))
 go_ret
 exact ⟨rfl, by first | exact aG (Below.refl _ _) _ | exact Below.refl _ _⟩
set_option maxHeartbeats 8000000 in
set_option maxRecDepth 100000 in
theorem dx.zero (s : Bool) (w : World) :
    Calls Tryz.prog 51 #[.float .f64 (Fl.zero s)] w fun e_ w' => e_ = .returned (.int .u64 (dD (Fl.zero s) : Nat)) ∧ Below w.heap.size w w' := by
 have g3 : (FloatKind.f64.format.order (Fl.zero false) (Fl.zero false) != some .eq) = false := by decide
 have g4 : (FloatKind.f64.format.order (Fl.zero false) 0 == some .eq) = true := by decide
 have hng := neg_zero; have hc : ((dD (Fl.zero s) : Nat) : Int) = (if s then 9223372036854775808 else 0) := by cases s <;> decide
 rw [hc]
 cases s
 ·
  go_enter Tryz.func51, Tryz.ntmps51
  go_wp2_with (first | (go_at_call 114; (with_reducible refine (gI.tA false _).mono ?_); rintro e' w1 ⟨rfl, nd, rfl⟩) | (go_at_call 113; (with_reducible refine (mG _).mono ?_); rintro e' w1 ⟨rfl, rfl⟩) | (go_at_call 115; (with_reducible refine (ju _).mono ?_); rintro e' w1 ⟨rfl, rfl⟩))
  go_ret
  exact ⟨rfl, by first | exact aG (Below.refl _ _) _ | exact Below.refl _ _⟩
 ·
  go_enter Tryz.func51, Tryz.ntmps51
  go_wp2_with (first | (go_at_call 114; (with_reducible refine (gI.tA true _).mono ?_); rintro e' w1 ⟨rfl, nd, rfl⟩) | (go_at_call 113; (with_reducible refine (mG _).mono ?_); rintro e' w1 ⟨rfl, rfl⟩) | (go_at_call 115; (with_reducible refine (ju _).mono ?_); rintro e' w1 ⟨rfl, rfl⟩))
  go_ret
  exact ⟨rfl, by first | exact aG (Below.refl _ _) _ | exact Below.refl _ _⟩
set_option maxHeartbeats 8000000 in
set_option maxRecDepth 100000 in
theorem dx.inf (s : Bool) (w : World) :
    Calls Tryz.prog 51 #[.float .f64 (Fl.inf s)] w fun e_ w' => e_ = .returned (.int .u64 (dD (Fl.inf s) : Nat)) ∧ Below w.heap.size w w' := by
 have g1 : (FloatKind.f64.format.order (Fl.inf s) 0 == some .lt) = s := by cases s <;> decide
 have g2 : (FloatKind.f64.format.order (Fl.inf s) 0 == some .eq) = false := by cases s <;> decide
 have g3 : (FloatKind.f64.format.order (Fl.inf false) (Fl.inf false) != some .eq) = false := by decide
 have g4 : (FloatKind.f64.format.order (Fl.inf false) 0 == some .eq) = false := by decide
 have g5 : ∀ W, (binOp .mul 49 (.float .f64 (Fl.inf false)) (.float .f64 4611686018427387904)).run Tryz.prog W = .ok (.float .f64 (Fl.inf false)) W := fun W => run_float_arith W .mul 49 .f64 _ _ _ (by decide)
 have g6 : (FloatKind.f64.format.order (Fl.inf false) (Fl.inf false) == some .eq) = true := by decide
 have hng := CX; have hc : ((dD (Fl.inf s) : Nat) : Int) = (if s then 18442240474082181120 else 9218868437227405312) := by cases s <;> decide
 rw [hc]
 cases s
 ·
  go_enter Tryz.func51, Tryz.ntmps51
  go_wp2_with (first | (go_at_call 114; (with_reducible refine (gI.jV _ _ _ g1 g2).mono ?_); rintro e' w1 ⟨rfl, nd, rfl⟩) | (go_at_call 113; (with_reducible refine (mG _).mono ?_); rintro e' w1 ⟨rfl, rfl⟩) | (go_at_call 115; (with_reducible refine (ju _).mono ?_); rintro e' w1 ⟨rfl, rfl⟩))
  go_ret
  exact ⟨rfl, by first | exact aG (Below.refl _ _) _ | exact Below.refl _ _⟩
 ·
  go_enter Tryz.func51, Tryz.ntmps51
  go_wp2_with (first | (go_at_call 114; (with_reducible refine (gI.jV _ _ _ g1 g2).mono ?_); rintro e' w1 ⟨rfl, nd, rfl⟩) | (go_at_call 113; (with_reducible refine (mG _).mono ?_); rintro e' w1 ⟨rfl, rfl⟩) | (go_at_call 115; (with_reducible refine (ju _).mono ?_); rintro e' w1 ⟨rfl, rfl⟩))
  go_ret
  exact ⟨rfl, by first | exact aG (Below.refl _ _) _ | exact Below.refl _ _⟩
set_option maxHeartbeats 8000000 in
set_option maxRecDepth 100000 in
theorem dx.fin (s : Bool) {m : Nat} {e : Int} (w : World) (hm : m ≠ 0) (hm2 : m < 9007199254740992) (he : -1074 ≤ e) (hE : e + m.log2 ≤ 1023)
    (hform : (m < 4503599627370496 ∧ e = -1074 ∧ m.log2 ≤ 51 ∧ Fl.rung m e = m) ∨ (4503599627370496 ≤ m ∧ m.log2 = 52 ∧ e ≤ 971 ∧ (Fl.rung m e : Int) = (e + 1074) * 4503599627370496 + m)) :
    Calls Tryz.prog 51 #[.float .f64 (Ieee.double.word s (Fl.rung m e))] w fun e_ w' => e_ = .returned (.int .u64 (dD (Ieee.double.word s (Fl.rung m e)) : Nat)) ∧ Below w.heap.size w w' := by
  obtain ⟨hfin1, hfin2, hfin3⟩ := Fl.gH s hm hm2 he hE
  have oz := Fl.oI s hm hm2 he hE
  have g1 : (FloatKind.f64.format.order (Ieee.double.word s (Fl.rung m e)) 0 == some .lt) = s := oz.1
  have g2 : (FloatKind.f64.format.order (Ieee.double.word s (Fl.rung m e)) 0 == some .eq) = false := oz.2
  have os := Fl.nC false hm hm2 he hE (Fl.rung m e) (Fl.bX _).symm
  have g3 : (FloatKind.f64.format.order (Fl.rung m e) (Fl.rung m e) != some .eq) = false := by show (Ieee.double.order _ _ != some .eq) = false; rw [os]; rfl
  have oz2 := (Fl.oI false hm hm2 he hE).2
  rw [Fl.bX] at oz2
  have g4 : (FloatKind.f64.format.order (Fl.rung m e) 0 == some .eq) = false := oz2
  have g5 := Fl.mul_two false hm hm2 (e := e) (k := 1) he hE (by omega) (by omega) (by omega)
  rw [Fl.bX, Fl.bX, kE] at g5
  have g5' : ∀ W, (binOp .mul 49 (.float .f64 (Fl.rung m e)) (.float .f64 4611686018427387904)).run Tryz.prog W = .ok (.float .f64 (Fl.rung m (e + 1))) W := fun W => run_float_arith W .mul 49 .f64 _ _ _ g5
  have g6 : (FloatKind.f64.format.order (Fl.rung m (e + 1)) (Fl.rung m e) == some .eq) = false := (Fl.tq hm hm2 he hE).2
  have oss := Fl.nC s hm hm2 he hE _ rfl
  have g3s : (FloatKind.f64.format.order (Ieee.double.word s (Fl.rung m e)) (Ieee.double.word s (Fl.rung m e)) != some .eq) = false := by show (Ieee.double.order _ _ != some .eq) = false; rw [oss]; rfl
  clear oss
  have hL := Fl.js hm hm2
  have hng := fun W => oW Tryz.prog W s (r := Fl.rung m e) (by omega)
  have HN := Aside0.mk hng
  clear hng g5 oz oz2 os hfin1 hfin3
  rw [Fl.mT s (by omega), Fl.vk]
  obtain ⟨L, hLd⟩ : ∃ L : Int, L = (m.log2 : Int) := ⟨_, rfl⟩
  obtain ⟨R, hR⟩ : ∃ R : Int, R = (Fl.rung m e : Int) := ⟨_, rfl⟩
  have hres : Aside0 (∃ D : Nat, D < 4503599627370496 ∧ ((L ≤ 51 ∧ e = -1074 ∧ D = m ∧ R = D) ∨ (L = 52 ∧ m = D + 4503599627370496 ∧ R = (e + 1075) * 4503599627370496 + D))) := by
    rcases hform with ⟨f1, f2, f3, f4⟩ | ⟨f1, f2, f3, f4⟩
    · exact ⟨m, f1, .inl ⟨by omega, f2, rfl, by omega⟩⟩
    · exact ⟨m - 4503599627370496, by omega, .inr ⟨by omega, by omega, by omega⟩⟩
  rw [← hR]
  have hR' := Aside0.mk hR
  have hE' : e + L ≤ 1023 := by omega
  clear hform hR hfin2
  obtain ⟨e0, he0⟩ : ∃ e0, e0 = e := ⟨_, rfl⟩
  have hxx : Aside0 (e = e0) := ⟨he0.symm⟩
  cases s
  · rw [Fl.bX] at g1 g2 ⊢
    go_enter Tryz.func51, Tryz.ntmps51
    go_wp2_with (first | (go_at_call 114; (with_reducible refine (gI.jV _ _ _ g1 g2).mono ?_); rintro e' w1 ⟨rfl, nd, rfl⟩) | (go_at_call 113; (with_reducible refine (mG _).mono ?_); rintro e' w1 ⟨rfl, rfl⟩) | (go_at_call 115; (with_reducible refine (ju _).mono ?_); rintro e' w1 ⟨rfl, rfl⟩))
    go_loopg [0, 4] 3000 (fun kq v0 v4 w' => ∃ (x n : Int), v0 = .float .f64 (Fl.rung m x) ∧ v4 = .int .u64 n ∧ Aside0 (x + L < kq ∧ n + x = 1023 + e0 ∧ -1074 ≤ x ∧ x + L ≤ 1023 ∧ x ≤ e0 ∧ (x = e0 ∨ 0 ≤ x + L)) ∧ Aside0 (Below w.heap.size w w'))
    case atStart => exact ⟨e, 1023, by rfl, by rfl, ⟨by have := hxx.out; omega⟩, ⟨by first | exact aG (Below.refl _ _) _ | exact Below.refl _ _⟩⟩
    case round =>
      obtain ⟨x, n, rfl, rfl, HK, HB⟩ := hrel
      have hk := HK.out
      have ro1 := (Fl.jG hm hm2 (e := x) (k := 1) (by omega) (by omega) (by omega) (by omega)).2
      rw [kE] at ro1
      by_cases c1 : 1 ≤ x + m.log2
      · cases gk with
        | zero => exact absurd c1 (by omega)
        | succ k2 =>
          rw [decide_eq_true c1] at ro1
          have s1 : (FloatKind.f64.format.order (Fl.rung m x) 4611686018427387904 == some .gt || FloatKind.f64.format.order (Fl.rung m x) 4611686018427387904 == some .eq) = true := ro1
          have m1 := od hm hm2 (e := x) (k := -1) (by omega) (by omega) (by omega) (by omega) (by omega)
          rw [qj] at m1
          have rw2 : IntKind.u64.wrap (n + 1) = n + 1 := by rw [IntKind.wrap_u64]; omega
          clear ro1
          go_wp2
          go_roundg k2
          case measure => omega
          case rel => exact ⟨x + -1, n + 1, by rfl, by first | rfl | simp [goInt, rw2], ⟨by omega⟩, HB⟩
      · rw [decide_eq_false c1] at ro1
        have s1 : (FloatKind.f64.format.order (Fl.rung m x) 4611686018427387904 == some .gt || FloatKind.f64.format.order (Fl.rung m x) 4611686018427387904 == some .eq) = false := ro1
        clear ro1
        go_wp2
        go_loopg [0, 4] 3000 (fun kq v0 v4 w' => ∃ (x n : Int), v0 = .float .f64 (Fl.rung m x) ∧ v4 = .int .u64 n ∧ Aside0 (-(x + L) < kq ∧ x + L ≤ 0 ∧ n + x = 1023 + e0 ∧ -1074 ≤ x ∧ 1 ≤ n ∧ n ≤ 2046) ∧ Aside0 (Below w.heap.size w w'))
        case atStart => exact ⟨x, n, by rfl, by rfl, ⟨by omega⟩, HB⟩
        case round =>
          clear HB HK hk c1 s1
          obtain ⟨x, n, rfl, rfl, HK, HB⟩ := hrel
          have hk := HK.out
          have ro1 := (Fl.jG hm hm2 (e := x) (k := 0) (by omega) (by omega) (by omega) (by omega)).1
          rw [tr] at ro1
          by_cases c1 : x + m.log2 < 0 ∧ 1 < n
          · cases gk with
            | zero => exact absurd c1.1 (by omega)
            | succ k2 =>
              rw [decide_eq_true c1.1] at ro1
              have s1 : (FloatKind.f64.format.order (Fl.rung m x) 4607182418800017408 == some .lt) = true := ro1
              have s2 : decide (n > 1) = true := decide_eq_true c1.2
              have m1 := od hm hm2 (e := x) (k := 1) (by omega) (by omega) (by omega) (by omega) (by omega)
              rw [kE] at m1
              have rw2 : IntKind.u64.wrap (n - 1) = n - 1 := by rw [IntKind.wrap_u64]; omega
              clear ro1
              go_wp2
              go_roundg k2
              case measure => omega
              case rel => exact ⟨x + 1, n - 1, by rfl, by first | rfl | simp [goInt, rw2], ⟨by omega⟩, HB⟩
          · have s2 : decide (n > 1) = decide (1 < n) := rfl
            obtain ⟨D, hD, hDD⟩ := hres.out
            have hx : x = -52 := by have := hxx.out; omega
            have hfin : Aside0 (ite (L ≤ 51) 0 n * 4503599627370496 + D = R ∧ 0 ≤ ite (L ≤ 51) 0 n ∧ ite (L ≤ 51) 0 n ≤ 2046) := ⟨by
              have := hxx.out
              split <;> omega⟩
            have hfin' := hfin
            clear hfin
            have hR0 : ∀ i : Int, -52 ≤ i → i < 0 → ∀ W, (binOp .mul 49 (.float .f64 (Fl.R0 D i)) (.float .f64 4611686018427387904)).run Tryz.prog W = .ok (.float .f64 (Fl.R0 D (i + 1))) W := fun i h1 h2 W =>
              run_float_arith W .mul 49 .f64 _ _ _ (by have := Fl.FJ (D := D) (by omega) (x := i) (by omega) (by omega); rwa [kE] at this)
            have HR0 := Aside0.mk hR0
            have hti := pX (Fl.AF (D := D) (by omega)) (by omega)
            have hti' : ∀ W, (convert 49 60 (.float .f64 (Fl.R0 D 0))).run Tryz.prog W = .ok (.int .u64 (D : Int)) W := fun W => run_convert_float_int W 49 60 .f64 .u64 _ _ (by kernel_rfl) Tryz.underlying60 hti
            clear hti hR0
            subst hx
            clear hk
            by_cases c2 : (m.log2 : Int) ≤ 51
            · have hfin : Aside0 ((D : Int) = R) := ⟨by have := hfin'.out; rw [if_pos (by omega)] at this; omega⟩
              have c2' : -52 + (m.log2 : Int) < 0 := by omega
              rw [decide_eq_true c2'] at ro1
              have s1 : (FloatKind.f64.format.order (Fl.rung m (-52)) 4607182418800017408 == some .lt) = true := ro1
              have s3 : decide (1 < n) = false := decide_eq_false (fun h => c1 ⟨c2', h⟩)
              have s4 : decide (n > 1) = false := s3
              have hR52 : Fl.rung m (-52) = Fl.R0 D (-52) := by
                have : D = m := by omega
                unfold Fl.R0
                rw [this, if_neg hm]
              have Iu := Aside0.mk hR52
              clear ro1 hR52
              go_wp2
              go_loopg [0, 5] 60 (fun kq v0 v5 w' => ∃ (i : Int), v0 = .float .f64 (Fl.R0 D (i - 52)) ∧ v5 = .int .i64 i ∧ Aside0 (0 ≤ i ∧ i ≤ 52 ∧ 52 - i < kq) ∧ Aside0 (Below w.heap.size w w'))
              case atStart => exact ⟨0, by rw [Iu.out]; rfl, by rfl, ⟨by omega⟩, HB⟩
              case round =>
                clear HB
                obtain ⟨i, rfl, rfl, HK, HB⟩ := hrel
                have hk := HK.out
                by_cases c5 : i < 52
                · cases gk with
                  | zero => exact absurd c5 (by omega)
                  | succ k2 =>
                    have s5 : decide (i < 52) = true := decide_eq_true c5
                    have m1 := HR0.out (i - 52) (by omega) (by omega)
                    have rw2 : IntKind.i64.wrap (i + 1) = i + 1 := by rw [IntKind.wrap_i64]; omega
                    go_wp2
                    go_roundg k2
                    case measure => omega
                    case rel => exact ⟨i + 1, by rw [show i + 1 - 52 = i - 52 + 1 by omega], by first | rfl | simp [goInt, rw2], ⟨by omega⟩, HB⟩
                · have s5 : decide (i < 52) = false := decide_eq_false c5
                  have hi : i - 52 = 0 := by omega
                  rw [hi]
                  go_wp2
                  go_ret
                  refine ⟨?_, HB.out⟩
                  have hf := hfin.out
                  refine congrArg (fun x => Ending.returned (.int .u64 x)) ?_
                  (try rw [IntKind.wrap_u64, IntKind.wrap_u64, IntKind.wrap_u64])
                  (try rw [IntKind.wrap_u64, IntKind.wrap_u64])
                  (try rw [IntKind.wrap_u64])
                  (try simp only [Bool.false_eq_true, if_false, if_true])
                  omega
            · have hfin : Aside0 (n * 4503599627370496 + D = R ∧ 0 ≤ n ∧ n ≤ 2046) := ⟨by have := hfin'.out; rw [if_neg (by omega)] at this; omega⟩
              rw [decide_eq_false (by omega)] at ro1
              have s1 : (FloatKind.f64.format.order (Fl.rung m (-52)) 4607182418800017408 == some .lt) = false := ro1
              have hR52 : ∀ W, (binOp .sub 49 (.float .f64 (Fl.rung m (-52))) (.float .f64 4607182418800017408)).run Tryz.prog W = .ok (.float .f64 (Fl.R0 D (-52))) W := fun W =>
                run_float_arith W .sub 49 .f64 _ _ _ (by
                  have hl : m.log2 = 52 := by omega
                  have h1 := Fl.sub_one hm hm2 (by omega)
                  rw [hl, tr] at h1
                  have hD2 : m * 2 ^ (52 - 52) - 4503599627370496 = D := by
                    rw [Nat.sub_self, Nat.pow_zero, Nat.mul_one]; omega
                  rw [hD2] at h1
                  exact h1)
              clear ro1
              go_wp2
              go_loopg [0, 5] 60 (fun kq v0 v5 w' => ∃ (i : Int), v0 = .float .f64 (Fl.R0 D (i - 52)) ∧ v5 = .int .i64 i ∧ Aside0 (0 ≤ i ∧ i ≤ 52 ∧ 52 - i < kq) ∧ Aside0 (Below w.heap.size w w'))
              case atStart => exact ⟨0, by rfl, by rfl, ⟨by omega⟩, HB⟩
              case round =>
                clear HB
                obtain ⟨i, rfl, rfl, HK, HB⟩ := hrel
                have hk := HK.out
                by_cases c5 : i < 52
                · cases gk with
                  | zero => exact absurd c5 (by omega)
                  | succ k2 =>
                    have s5 : decide (i < 52) = true := decide_eq_true c5
                    have m1 := HR0.out (i - 52) (by omega) (by omega)
                    have rw2 : IntKind.i64.wrap (i + 1) = i + 1 := by rw [IntKind.wrap_i64]; omega
                    go_wp2
                    go_roundg k2
                    case measure => omega
                    case rel => exact ⟨i + 1, by rw [show i + 1 - 52 = i - 52 + 1 by omega], by first | rfl | simp [goInt, rw2], ⟨by omega⟩, HB⟩
                · have s5 : decide (i < 52) = false := decide_eq_false c5
                  have hi : i - 52 = 0 := by omega
                  rw [hi]
                  go_wp2
                  go_ret
                  refine ⟨?_, HB.out⟩
                  have hf := hfin.out
                  refine congrArg (fun x => Ending.returned (.int .u64 x)) ?_
                  (try rw [IntKind.wrap_u64, IntKind.wrap_u64, IntKind.wrap_u64])
                  (try rw [IntKind.wrap_u64, IntKind.wrap_u64])
                  (try rw [IntKind.wrap_u64])
                  (try simp only [Bool.false_eq_true, if_false, if_true])
                  omega
  · have hng : ∀ W, (Op.unary .neg (.float .f64 (Ieee.double.word true (Fl.rung m e)))).run Tryz.prog W = .ok (.float .f64 (Fl.rung m e)) W := fun W => by have := HN.out W; rwa [Bool.not_true, Fl.bX] at this
    have hlt2 : True := trivial
    go_enter Tryz.func51, Tryz.ntmps51
    go_wp2_with (first | (go_at_call 114; (with_reducible refine (gI.jV _ _ _ g1 g2).mono ?_); rintro e' w1 ⟨rfl, nd, rfl⟩) | (go_at_call 113; (with_reducible refine (mG _).mono ?_); rintro e' w1 ⟨rfl, rfl⟩) | (go_at_call 115; (with_reducible refine (ju _).mono ?_); rintro e' w1 ⟨rfl, rfl⟩))
    go_loopg [0, 4] 3000 (fun kq v0 v4 w' => ∃ (x n : Int), v0 = .float .f64 (Fl.rung m x) ∧ v4 = .int .u64 n ∧ Aside0 (x + L < kq ∧ n + x = 1023 + e0 ∧ -1074 ≤ x ∧ x + L ≤ 1023 ∧ x ≤ e0 ∧ (x = e0 ∨ 0 ≤ x + L)) ∧ Aside0 (Below w.heap.size w w'))
    case atStart => exact ⟨e, 1023, by rfl, by rfl, ⟨by have := hxx.out; omega⟩, ⟨by first | exact aG (Below.refl _ _) _ | exact Below.refl _ _⟩⟩
    case round =>
      obtain ⟨x, n, rfl, rfl, HK, HB⟩ := hrel
      have hk := HK.out
      have ro1 := (Fl.jG hm hm2 (e := x) (k := 1) (by omega) (by omega) (by omega) (by omega)).2
      rw [kE] at ro1
      by_cases c1 : 1 ≤ x + m.log2
      · cases gk with
        | zero => exact absurd c1 (by omega)
        | succ k2 =>
          rw [decide_eq_true c1] at ro1
          have s1 : (FloatKind.f64.format.order (Fl.rung m x) 4611686018427387904 == some .gt || FloatKind.f64.format.order (Fl.rung m x) 4611686018427387904 == some .eq) = true := ro1
          have m1 := od hm hm2 (e := x) (k := -1) (by omega) (by omega) (by omega) (by omega) (by omega)
          rw [qj] at m1
          have rw2 : IntKind.u64.wrap (n + 1) = n + 1 := by rw [IntKind.wrap_u64]; omega
          clear ro1
          go_wp2
          go_roundg k2
          case measure => omega
          case rel => exact ⟨x + -1, n + 1, by rfl, by first | rfl | simp [goInt, rw2], ⟨by omega⟩, HB⟩
      · rw [decide_eq_false c1] at ro1
        have s1 : (FloatKind.f64.format.order (Fl.rung m x) 4611686018427387904 == some .gt || FloatKind.f64.format.order (Fl.rung m x) 4611686018427387904 == some .eq) = false := ro1
        clear ro1
        go_wp2
        go_loopg [0, 4] 3000 (fun kq v0 v4 w' => ∃ (x n : Int), v0 = .float .f64 (Fl.rung m x) ∧ v4 = .int .u64 n ∧ Aside0 (-(x + L) < kq ∧ x + L ≤ 0 ∧ n + x = 1023 + e0 ∧ -1074 ≤ x ∧ 1 ≤ n ∧ n ≤ 2046) ∧ Aside0 (Below w.heap.size w w'))
        case atStart => exact ⟨x, n, by rfl, by rfl, ⟨by omega⟩, HB⟩
        case round =>
          clear HB HK hk c1 s1
          obtain ⟨x, n, rfl, rfl, HK, HB⟩ := hrel
          have hk := HK.out
          have ro1 := (Fl.jG hm hm2 (e := x) (k := 0) (by omega) (by omega) (by omega) (by omega)).1
          rw [tr] at ro1
          by_cases c1 : x + m.log2 < 0 ∧ 1 < n
          · cases gk with
            | zero => exact absurd c1.1 (by omega)
            | succ k2 =>
              rw [decide_eq_true c1.1] at ro1
              have s1 : (FloatKind.f64.format.order (Fl.rung m x) 4607182418800017408 == some .lt) = true := ro1
              have s2 : decide (n > 1) = true := decide_eq_true c1.2
              have m1 := od hm hm2 (e := x) (k := 1) (by omega) (by omega) (by omega) (by omega) (by omega)
              rw [kE] at m1
              have rw2 : IntKind.u64.wrap (n - 1) = n - 1 := by rw [IntKind.wrap_u64]; omega
              clear ro1
              go_wp2
              go_roundg k2
              case measure => omega
              case rel => exact ⟨x + 1, n - 1, by rfl, by first | rfl | simp [goInt, rw2], ⟨by omega⟩, HB⟩
          · have s2 : decide (n > 1) = decide (1 < n) := rfl
            obtain ⟨D, hD, hDD⟩ := hres.out
            have hx : x = -52 := by have := hxx.out; omega
            have hfin : Aside0 (ite (L ≤ 51) 0 n * 4503599627370496 + D = R ∧ 0 ≤ ite (L ≤ 51) 0 n ∧ ite (L ≤ 51) 0 n ≤ 2046) := ⟨by
              have := hxx.out
              split <;> omega⟩
            have hfin' := hfin
            clear hfin
            have hR0 : ∀ i : Int, -52 ≤ i → i < 0 → ∀ W, (binOp .mul 49 (.float .f64 (Fl.R0 D i)) (.float .f64 4611686018427387904)).run Tryz.prog W = .ok (.float .f64 (Fl.R0 D (i + 1))) W := fun i h1 h2 W =>
              run_float_arith W .mul 49 .f64 _ _ _ (by have := Fl.FJ (D := D) (by omega) (x := i) (by omega) (by omega); rwa [kE] at this)
            have HR0 := Aside0.mk hR0
            have hti := pX (Fl.AF (D := D) (by omega)) (by omega)
            have hti' : ∀ W, (convert 49 60 (.float .f64 (Fl.R0 D 0))).run Tryz.prog W = .ok (.int .u64 (D : Int)) W := fun W => run_convert_float_int W 49 60 .f64 .u64 _ _ (by kernel_rfl) Tryz.underlying60 hti
            clear hti hR0
            subst hx
            clear hk
            by_cases c2 : (m.log2 : Int) ≤ 51
            · have hfin : Aside0 ((D : Int) = R) := ⟨by have := hfin'.out; rw [if_pos (by omega)] at this; omega⟩
              have c2' : -52 + (m.log2 : Int) < 0 := by omega
              rw [decide_eq_true c2'] at ro1
              have s1 : (FloatKind.f64.format.order (Fl.rung m (-52)) 4607182418800017408 == some .lt) = true := ro1
              have s3 : decide (1 < n) = false := decide_eq_false (fun h => c1 ⟨c2', h⟩)
              have s4 : decide (n > 1) = false := s3
              have hR52 : Fl.rung m (-52) = Fl.R0 D (-52) := by
                have : D = m := by omega
                unfold Fl.R0
                rw [this, if_neg hm]
              have Iu := Aside0.mk hR52
              clear ro1 hR52
              go_wp2
              go_loopg [0, 5] 60 (fun kq v0 v5 w' => ∃ (i : Int), v0 = .float .f64 (Fl.R0 D (i - 52)) ∧ v5 = .int .i64 i ∧ Aside0 (0 ≤ i ∧ i ≤ 52 ∧ 52 - i < kq) ∧ Aside0 (Below w.heap.size w w'))
              case atStart => exact ⟨0, by rw [Iu.out]; rfl, by rfl, ⟨by omega⟩, HB⟩
              case round =>
                clear HB
                obtain ⟨i, rfl, rfl, HK, HB⟩ := hrel
                have hk := HK.out
                by_cases c5 : i < 52
                · cases gk with
                  | zero => exact absurd c5 (by omega)
                  | succ k2 =>
                    have s5 : decide (i < 52) = true := decide_eq_true c5
                    have m1 := HR0.out (i - 52) (by omega) (by omega)
                    have rw2 : IntKind.i64.wrap (i + 1) = i + 1 := by rw [IntKind.wrap_i64]; omega
                    go_wp2
                    go_roundg k2
                    case measure => omega
                    case rel => exact ⟨i + 1, by rw [show i + 1 - 52 = i - 52 + 1 by omega], by first | rfl | simp [goInt, rw2], ⟨by omega⟩, HB⟩
                · have s5 : decide (i < 52) = false := decide_eq_false c5
                  have hi : i - 52 = 0 := by omega
                  rw [hi]
                  go_wp2
                  go_ret
                  refine ⟨?_, HB.out⟩
                  have hf := hfin.out
                  refine congrArg (fun x => Ending.returned (.int .u64 x)) ?_
                  (try rw [IntKind.wrap_u64, IntKind.wrap_u64, IntKind.wrap_u64])
                  (try rw [IntKind.wrap_u64, IntKind.wrap_u64])
                  (try rw [IntKind.wrap_u64])
                  (try simp only [Bool.false_eq_true, if_false, if_true])
                  omega
            · have hfin : Aside0 (n * 4503599627370496 + D = R ∧ 0 ≤ n ∧ n ≤ 2046) := ⟨by have := hfin'.out; rw [if_neg (by omega)] at this; omega⟩
              rw [decide_eq_false (by omega)] at ro1
              have s1 : (FloatKind.f64.format.order (Fl.rung m (-52)) 4607182418800017408 == some .lt) = false := ro1
              have hR52 : ∀ W, (binOp .sub 49 (.float .f64 (Fl.rung m (-52))) (.float .f64 4607182418800017408)).run Tryz.prog W = .ok (.float .f64 (Fl.R0 D (-52))) W := fun W =>
                run_float_arith W .sub 49 .f64 _ _ _ (by
                  have hl : m.log2 = 52 := by omega
                  have h1 := Fl.sub_one hm hm2 (by omega)
                  rw [hl, tr] at h1
                  have hD2 : m * 2 ^ (52 - 52) - 4503599627370496 = D := by
                    rw [Nat.sub_self, Nat.pow_zero, Nat.mul_one]; omega
                  rw [hD2] at h1
                  exact h1)
              clear ro1
              go_wp2
              go_loopg [0, 5] 60 (fun kq v0 v5 w' => ∃ (i : Int), v0 = .float .f64 (Fl.R0 D (i - 52)) ∧ v5 = .int .i64 i ∧ Aside0 (0 ≤ i ∧ i ≤ 52 ∧ 52 - i < kq) ∧ Aside0 (Below w.heap.size w w'))
              case atStart => exact ⟨0, by rfl, by rfl, ⟨by omega⟩, HB⟩
              case round =>
                clear HB
                obtain ⟨i, rfl, rfl, HK, HB⟩ := hrel
                have hk := HK.out
                by_cases c5 : i < 52
                · cases gk with
                  | zero => exact absurd c5 (by omega)
                  | succ k2 =>
                    have s5 : decide (i < 52) = true := decide_eq_true c5
                    have m1 := HR0.out (i - 52) (by omega) (by omega)
                    have rw2 : IntKind.i64.wrap (i + 1) = i + 1 := by rw [IntKind.wrap_i64]; omega
                    go_wp2
                    go_roundg k2
                    case measure => omega
                    case rel => exact ⟨i + 1, by rw [show i + 1 - 52 = i - 52 + 1 by omega], by first | rfl | simp [goInt, rw2], ⟨by omega⟩, HB⟩
                · have s5 : decide (i < 52) = false := decide_eq_false c5
                  have hi : i - 52 = 0 := by omega
                  rw [hi]
                  go_wp2
                  go_ret
                  refine ⟨?_, HB.out⟩
                  have hf := hfin.out
                  refine congrArg (fun x => Ending.returned (.int .u64 x)) ?_
                  (try rw [IntKind.wrap_u64, IntKind.wrap_u64, IntKind.wrap_u64])
                  (try rw [IntKind.wrap_u64, IntKind.wrap_u64])
                  (try rw [IntKind.wrap_u64])
                  (try simp only [Bool.false_eq_true, if_false, if_true])
                  omega
set_option maxRecDepth 100000 in
theorem dx.calls (bv0 : Nat) (a0 : Int) (r : Int) (w : World) (bq0 : FB bv0 a0) (h : dx.f a0 = some r) :
    Calls Tryz.prog 51 #[.float .f64 bv0] w fun e_ w' => e_ = .returned (.int .u64 r) ∧ Below w.heap.size w w' := by
 obtain rfl := Option.some.inj h; clear h; rw [bq0.eq]
 rcases Fl.classify bv0 bq0.lt with hn | hz | hz | ⟨s, m, e, hm, hm2, he, hE, hz, hform⟩
 · exact dx.nan _ w hn
 ·
  obtain ⟨s, hz⟩ := hz; rw [hz]; exact dx.zero s w
 ·
  obtain ⟨s, hz⟩ := hz; rw [hz]; exact dx.inf s w
 ·
  rw [hz]; exact dx.fin s w hm hm2 he hE hform
def fX.f (a0 : Int) (a1 : Int) : Option (Bool) := (dx.f a0).bind fun Iv => ((dx.f a1).bind fun Iw => (some (Iv == Iw)))
set_option maxHeartbeats 8000000 in
set_option maxRecDepth 100000 in
theorem fX.calls (bv0 : Nat) (a0 : Int) (bv1 : Nat) (a1 : Int) (r : Bool) (w : World) (bq0 : FB bv0 a0) (bq1 : FB bv1 a1) (h : fX.f a0 a1 = some r) :
 Calls Tryz.prog 82 #[.float .f64 bv0, .float .f64 bv1] w fun e w' => e = .returned (.bool r) ∧ Below w.heap.size w w' := by
 have HB := Aside0.mk (Below.refl w.heap.size w); have H := h; unfold fX.f at H; clear h; obtain ⟨Iv, A3, H⟩ := bnz H; (try dsimp only at H); obtain ⟨Iw, A4, H⟩ := bnz H; (try dsimp only at H); obtain rfl := Option.some.inj H; go_enter Tryz.func82, Tryz.ntmps82
 go_wp2_with (first | ((with_reducible refine ak (f := 51) rfl ?_); refine aD (some 6) rfl rfl Tryz.func51 (by kernel_rfl) rfl #[.float .f64 bv0] rfl mz ?_; (with_reducible refine (dx.calls _ a0 Iv _ ?side1 A3.out).mono ?_); (case side1 => exact fz); rintro e w5 ⟨rfl, hb⟩; refine ⟨_, rfl, ?_⟩; replace HB := sb HB hb; (try clear hb); (try clear hb2); (try clear hk); (try clear hi)) | ((with_reducible refine ak (f := 51) rfl ?_); refine aD (some 8) rfl rfl Tryz.func51 (by kernel_rfl) rfl #[.float .f64 bv1] rfl mz ?_; (with_reducible refine (dx.calls _ a1 Iw _ ?side1 A4.out).mono ?_); (case side1 => exact fz); rintro e w6 ⟨rfl, hb⟩; refine ⟨_, rfl, ?_⟩; replace HB := sb HB hb; (try clear hb); (try clear hb2); (try clear hk); (try clear hi)))
 go_ret
 exact ⟨ez, hz HB.out⟩
def jk.f (a0_0 : Int) (a0_1 : Int) (a0_2 : ByteArray) (a0_3 : Int) (a1_0 : Int) (a1_1 : Int) (a1_2 : ByteArray) (a1_3 : Int) : Option (Bool) := if a0_0 = a1_0 then (if a0_1 = a1_1 then (if a0_2.toList = a1_2.toList then ((fX.f a0_3 a1_3).bind fun Iy => (some Iy)) else (some false)) else (some false)) else (some false)
set_option maxHeartbeats 8000000 in
set_option maxRecDepth 100000 in
theorem jk.calls (a0_0 : Int) (a0_1 : Int) (a0_2 : ByteArray) (fu : Nat) (a0_3 : Int) (a1_0 : Int) (a1_1 : Int) (a1_2 : ByteArray) (ni : Nat) (a1_3 : Int) (r : Bool) (w : World) (Oe : FB fu a0_3) (Uu : FB ni a1_3) (h : jk.f a0_0 a0_1 a0_2 a0_3 a1_0 a1_1 a1_2 a1_3 = some r) :
 Calls Tryz.prog 142 #[.agg #[.int .i64 a0_0, .int .i64 a0_1, .string a0_2, .float .f64 fu], .agg #[.int .i64 a1_0, .int .i64 a1_1, .string a1_2, .float .f64 ni]] w fun e w' => e = .returned (.bool r) ∧ Below w.heap.size w w' := by
 have hu155 := Tryz.underlying155; have HB := Aside0.mk (Below.refl w.heap.size w); have H := h; unfold jk.f at H; clear h
 by_cases c3 : a0_0 = a1_0
 ·
  rw [if_pos c3] at H; have gD : (a0_0 == a1_0) = true := beq_iff_eq.mpr c3; have kT : (a0_0 != a1_0) = false := bne_eq_false_iff_eq.mpr c3; clear c3
  by_cases c4 : a0_1 = a1_1
  ·
   rw [if_pos c4] at H; have iC : (a0_1 == a1_1) = true := beq_iff_eq.mpr c4; have MU : (a0_1 != a1_1) = false := bne_eq_false_iff_eq.mpr c4; clear c4
   by_cases c5 : a0_2.toList = a1_2.toList
   ·
    rw [if_pos c5] at H; have fk : (a0_2.toList == a1_2.toList) = true := beq_iff_eq.mpr c5; have pZ : (a0_2.toList != a1_2.toList) = false := bne_eq_false_iff_eq.mpr c5; clear c5; obtain ⟨Iy, A6, H⟩ := bnz H; (try dsimp only at H); obtain rfl := Option.some.inj H; go_enter Tryz.func142, Tryz.ntmps142
    go_wp2_with (first | ((with_reducible refine bG (N := 2) rfl ?_); refine bW ?hg (N := 2) ?hd (cs := #[.int .i64 a0_0, .int .i64 a0_1, .string a0_2, .float .f64 fu]) (t := 155) ?hr ?_; (case hd => rfl); (case hg => rfl); (case hr => first | (go_simp; done) | (go_simp; rfl)); intro ep hg w7 hbox hb; have dP := am (hbox); have E3 := am ((by rw [hg]; exact (ai (hz HB.out)) : w.heap.size ≤ ep)); have jc := am ((by rw [hg]; exact (ai (hz HB.out)) : w.heap.size ≤ ep)); replace HB := sb HB hb; clear hb hbox hg) | ((with_reducible refine bG (N := 3) rfl ?_); refine bW ?hg (N := 3) ?hd (cs := #[.int .i64 a1_0, .int .i64 a1_1, .string a1_2, .float .f64 ni]) (t := 155) ?hr ?_; (case hd => rfl); (case hg => rfl); (case hr => first | (go_simp; done) | (go_simp; rfl)); intro fN hg w8 hbox hb; have fG := am (hbox); have E4 := am ((by rw [hg]; exact (ai (hz1 HB.out jc.out)) : w.heap.size ≤ fN)); have pR := am ((by rw [hg]; exact (ai (hz1 HB.out jc.out)) : w.heap.size ≤ fN)); replace HB := am (aM (hz1 HB.out jc.out) hb); have kV := am ((by rw [hg]; exact Nat.ne_of_lt (cY (g := ep) (o := .cells #[.int .i64 a0_0, .int .i64 a0_1, .string a0_2, .float .f64 fu] 155 (0, 0)) (kz dP.out)) : ep ≠ fN)); have kW := am ((by rw [hg]; exact Nat.ne_of_gt (cY (g := ep) (o := .cells #[.int .i64 a0_0, .int .i64 a0_1, .string a0_2, .float .f64 fu] 155 (0, 0)) (kz dP.out)) : fN ≠ ep)); replace dP := am (aX (g := ep) (o := .cells #[.int .i64 a0_0, .int .i64 a0_1, .string a0_2, .float .f64 fu] 155 (0, 0)) (kz dP.out) hb); clear hb hbox hg; have hnb9 := kV.out; have hnc9 := kW.out; have Tn : w8.cell? ⟨ep, 0, none⟩ = some (.int .i64 a0_0) := (af dP.out 0).trans rfl; have Tp : w8.cell? ⟨ep, 1, none⟩ = some (.int .i64 a0_1) := (af dP.out 1).trans rfl; have Tq : w8.cell? ⟨ep, 2, none⟩ = some (.string a0_2) := (af dP.out 2).trans rfl; have Tt : w8.cell? ⟨ep, 3, none⟩ = some (.float .f64 fu) := (af dP.out 3).trans rfl; have Tu := aj dP.out 0; have Tv := aj dP.out 1; have Tw := aj dP.out 2; have Tx := aj dP.out 3; have Ty : w8.cell? ⟨fN, 0, none⟩ = some (.int .i64 a1_0) := (af fG.out 0).trans rfl; have Tz : w8.cell? ⟨fN, 1, none⟩ = some (.int .i64 a1_1) := (af fG.out 1).trans rfl; have TA : w8.cell? ⟨fN, 2, none⟩ = some (.string a1_2) := (af fG.out 2).trans rfl; have TB : w8.cell? ⟨fN, 3, none⟩ = some (.float .f64 ni) := (af fG.out 3).trans rfl; have TC := aj fG.out 0; have TD := aj fG.out 1; have TE := aj fG.out 2; have TF := aj fG.out 3) | (go_at_call 82; (with_reducible refine (fX.calls _ a0_3 _ a1_3 Iy _ ?side1 ?side2 A6.out).mono ?_); (case side1 => exact fz); (case side2 => exact fz); rintro e w12 ⟨rfl, hb⟩; replace dP := am (aX (g := ep) (o := .cells #[.int .i64 a0_0, .int .i64 a0_1, .string a0_2, .float .f64 fu] 155 (0, 0)) (kz dP.out) hb); replace fG := am (aX (g := fN) (o := .cells #[.int .i64 a1_0, .int .i64 a1_1, .string a1_2, .float .f64 ni] 155 (0, 0)) (kz fG.out) hb); replace HB := am (aM (by repeat (first | (with_reducible first | exact HB.out | apply aH | apply aG | apply bw | refine bM ?_ jc.out | refine bM ?_ pR.out) | exact HB.out)) hb); (try clear hb); (try clear hb2); (try clear hk); (try clear hi)))
    go_ret
    exact ⟨ez, by repeat (first | (with_reducible first | exact HB.out | apply aH | apply aG | apply bw | refine bM ?_ jc.out | refine bM ?_ pR.out) | exact HB.out)⟩
   ·
    rw [if_neg c5] at H; have fk : (a0_2.toList == a1_2.toList) = false := beq_eq_false_iff_ne.mpr c5; have pZ : (a0_2.toList != a1_2.toList) = true := bne_iff_ne.mpr c5; obtain rfl := Option.some.inj H; go_enter Tryz.func142, Tryz.ntmps142
    go_wp2_with (first | ((with_reducible refine bG (N := 2) rfl ?_); refine bW ?hg (N := 2) ?hd (cs := #[.int .i64 a0_0, .int .i64 a0_1, .string a0_2, .float .f64 fu]) (t := 155) ?hr ?_; (case hd => rfl); (case hg => rfl); (case hr => first | (go_simp; done) | (go_simp; rfl)); intro ep hg w13 hbox hb; have dP := am (hbox); have E3 := am ((by rw [hg]; exact (ai (hz HB.out)) : w.heap.size ≤ ep)); have jc := am ((by rw [hg]; exact (ai (hz HB.out)) : w.heap.size ≤ ep)); replace HB := sb HB hb; clear hb hbox hg) | ((with_reducible refine bG (N := 3) rfl ?_); refine bW ?hg (N := 3) ?hd (cs := #[.int .i64 a1_0, .int .i64 a1_1, .string a1_2, .float .f64 ni]) (t := 155) ?hr ?_; (case hd => rfl); (case hg => rfl); (case hr => first | (go_simp; done) | (go_simp; rfl)); intro fN hg w14 hbox hb; have fG := am (hbox); have E4 := am ((by rw [hg]; exact (ai (hz1 HB.out jc.out)) : w.heap.size ≤ fN)); have pR := am ((by rw [hg]; exact (ai (hz1 HB.out jc.out)) : w.heap.size ≤ fN)); replace HB := am (aM (hz1 HB.out jc.out) hb); have kV := am ((by rw [hg]; exact Nat.ne_of_lt (cY (g := ep) (o := .cells #[.int .i64 a0_0, .int .i64 a0_1, .string a0_2, .float .f64 fu] 155 (0, 0)) (kz dP.out)) : ep ≠ fN)); have kW := am ((by rw [hg]; exact Nat.ne_of_gt (cY (g := ep) (o := .cells #[.int .i64 a0_0, .int .i64 a0_1, .string a0_2, .float .f64 fu] 155 (0, 0)) (kz dP.out)) : fN ≠ ep)); replace dP := am (aX (g := ep) (o := .cells #[.int .i64 a0_0, .int .i64 a0_1, .string a0_2, .float .f64 fu] 155 (0, 0)) (kz dP.out) hb); clear hb hbox hg; have hnb15 := kV.out; have hnc15 := kW.out; have xS : w14.cell? ⟨ep, 0, none⟩ = some (.int .i64 a0_0) := (af dP.out 0).trans rfl; have xT : w14.cell? ⟨ep, 1, none⟩ = some (.int .i64 a0_1) := (af dP.out 1).trans rfl; have Km : w14.cell? ⟨ep, 2, none⟩ = some (.string a0_2) := (af dP.out 2).trans rfl; have Kn : w14.cell? ⟨ep, 3, none⟩ = some (.float .f64 fu) := (af dP.out 3).trans rfl; have xU := aj dP.out 0; have xV := aj dP.out 1; have Ko := aj dP.out 2; have Kq := aj dP.out 3; have Kv : w14.cell? ⟨fN, 0, none⟩ = some (.int .i64 a1_0) := (af fG.out 0).trans rfl; have Kw : w14.cell? ⟨fN, 1, none⟩ = some (.int .i64 a1_1) := (af fG.out 1).trans rfl; have Kx : w14.cell? ⟨fN, 2, none⟩ = some (.string a1_2) := (af fG.out 2).trans rfl; have Ky : w14.cell? ⟨fN, 3, none⟩ = some (.float .f64 ni) := (af fG.out 3).trans rfl; have Kz := aj fG.out 0; have KA := aj fG.out 1; have KC := aj fG.out 2; have KE := aj fG.out 3))
    go_ret
    exact ⟨ez, by repeat (first | (with_reducible first | exact HB.out | apply aH | apply aG | apply bw | refine bM ?_ jc.out | refine bM ?_ pR.out) | exact HB.out)⟩
  ·
   rw [if_neg c4] at H; have iC : (a0_1 == a1_1) = false := beq_eq_false_iff_ne.mpr c4; have MU : (a0_1 != a1_1) = true := bne_iff_ne.mpr c4; obtain rfl := Option.some.inj H; go_enter Tryz.func142, Tryz.ntmps142
   go_wp2_with (first | ((with_reducible refine bG (N := 2) rfl ?_); refine bW ?hg (N := 2) ?hd (cs := #[.int .i64 a0_0, .int .i64 a0_1, .string a0_2, .float .f64 fu]) (t := 155) ?hr ?_; (case hd => rfl); (case hg => rfl); (case hr => first | (go_simp; done) | (go_simp; rfl)); intro ep hg w18 hbox hb; have dP := am (hbox); have E3 := am ((by rw [hg]; exact (ai (hz HB.out)) : w.heap.size ≤ ep)); have jc := am ((by rw [hg]; exact (ai (hz HB.out)) : w.heap.size ≤ ep)); replace HB := sb HB hb; clear hb hbox hg) | ((with_reducible refine bG (N := 3) rfl ?_); refine bW ?hg (N := 3) ?hd (cs := #[.int .i64 a1_0, .int .i64 a1_1, .string a1_2, .float .f64 ni]) (t := 155) ?hr ?_; (case hd => rfl); (case hg => rfl); (case hr => first | (go_simp; done) | (go_simp; rfl)); intro fN hg w19 hbox hb; have fG := am (hbox); have E4 := am ((by rw [hg]; exact (ai (hz1 HB.out jc.out)) : w.heap.size ≤ fN)); have pR := am ((by rw [hg]; exact (ai (hz1 HB.out jc.out)) : w.heap.size ≤ fN)); replace HB := am (aM (hz1 HB.out jc.out) hb); have kV := am ((by rw [hg]; exact Nat.ne_of_lt (cY (g := ep) (o := .cells #[.int .i64 a0_0, .int .i64 a0_1, .string a0_2, .float .f64 fu] 155 (0, 0)) (kz dP.out)) : ep ≠ fN)); have kW := am ((by rw [hg]; exact Nat.ne_of_gt (cY (g := ep) (o := .cells #[.int .i64 a0_0, .int .i64 a0_1, .string a0_2, .float .f64 fu] 155 (0, 0)) (kz dP.out)) : fN ≠ ep)); replace dP := am (aX (g := ep) (o := .cells #[.int .i64 a0_0, .int .i64 a0_1, .string a0_2, .float .f64 fu] 155 (0, 0)) (kz dP.out) hb); clear hb hbox hg; have hnb20 := kV.out; have hnc20 := kW.out; have TG : w19.cell? ⟨ep, 0, none⟩ = some (.int .i64 a0_0) := (af dP.out 0).trans rfl; have TH : w19.cell? ⟨ep, 1, none⟩ = some (.int .i64 a0_1) := (af dP.out 1).trans rfl; have TI : w19.cell? ⟨ep, 2, none⟩ = some (.string a0_2) := (af dP.out 2).trans rfl; have TJ : w19.cell? ⟨ep, 3, none⟩ = some (.float .f64 fu) := (af dP.out 3).trans rfl; have TK := aj dP.out 0; have TL := aj dP.out 1; have TM := aj dP.out 2; have TN := aj dP.out 3; have KF : w19.cell? ⟨fN, 0, none⟩ = some (.int .i64 a1_0) := (af fG.out 0).trans rfl; have KG : w19.cell? ⟨fN, 1, none⟩ = some (.int .i64 a1_1) := (af fG.out 1).trans rfl; have KH : w19.cell? ⟨fN, 2, none⟩ = some (.string a1_2) := (af fG.out 2).trans rfl; have KI : w19.cell? ⟨fN, 3, none⟩ = some (.float .f64 ni) := (af fG.out 3).trans rfl; have KJ := aj fG.out 0; have KK := aj fG.out 1; have KL := aj fG.out 2; have KM := aj fG.out 3))
   go_ret
   exact ⟨ez, by repeat (first | (with_reducible first | exact HB.out | apply aH | apply aG | apply bw | refine bM ?_ jc.out | refine bM ?_ pR.out) | exact HB.out)⟩
 ·
  rw [if_neg c3] at H; have gD : (a0_0 == a1_0) = false := beq_eq_false_iff_ne.mpr c3; have kT : (a0_0 != a1_0) = true := bne_iff_ne.mpr c3; obtain rfl := Option.some.inj H; go_enter Tryz.func142, Tryz.ntmps142
  go_wp2_with (first | ((with_reducible refine bG (N := 2) rfl ?_); refine bW ?hg (N := 2) ?hd (cs := #[.int .i64 a0_0, .int .i64 a0_1, .string a0_2, .float .f64 fu]) (t := 155) ?hr ?_; (case hd => rfl); (case hg => rfl); (case hr => first | (go_simp; done) | (go_simp; rfl)); intro ep hg w23 hbox hb; have dP := am (hbox); have E3 := am ((by rw [hg]; exact (ai (hz HB.out)) : w.heap.size ≤ ep)); have jc := am ((by rw [hg]; exact (ai (hz HB.out)) : w.heap.size ≤ ep)); replace HB := sb HB hb; clear hb hbox hg) | ((with_reducible refine bG (N := 3) rfl ?_); refine bW ?hg (N := 3) ?hd (cs := #[.int .i64 a1_0, .int .i64 a1_1, .string a1_2, .float .f64 ni]) (t := 155) ?hr ?_; (case hd => rfl); (case hg => rfl); (case hr => first | (go_simp; done) | (go_simp; rfl)); intro fN hg w24 hbox hb; have fG := am (hbox); have E4 := am ((by rw [hg]; exact (ai (hz1 HB.out jc.out)) : w.heap.size ≤ fN)); have pR := am ((by rw [hg]; exact (ai (hz1 HB.out jc.out)) : w.heap.size ≤ fN)); replace HB := am (aM (hz1 HB.out jc.out) hb); have kV := am ((by rw [hg]; exact Nat.ne_of_lt (cY (g := ep) (o := .cells #[.int .i64 a0_0, .int .i64 a0_1, .string a0_2, .float .f64 fu] 155 (0, 0)) (kz dP.out)) : ep ≠ fN)); have kW := am ((by rw [hg]; exact Nat.ne_of_gt (cY (g := ep) (o := .cells #[.int .i64 a0_0, .int .i64 a0_1, .string a0_2, .float .f64 fu] 155 (0, 0)) (kz dP.out)) : fN ≠ ep)); replace dP := am (aX (g := ep) (o := .cells #[.int .i64 a0_0, .int .i64 a0_1, .string a0_2, .float .f64 fu] 155 (0, 0)) (kz dP.out) hb); clear hb hbox hg; have hnb25 := kV.out; have hnc25 := kW.out; have TP : w24.cell? ⟨ep, 0, none⟩ = some (.int .i64 a0_0) := (af dP.out 0).trans rfl; have TQ : w24.cell? ⟨ep, 1, none⟩ = some (.int .i64 a0_1) := (af dP.out 1).trans rfl; have TR : w24.cell? ⟨ep, 2, none⟩ = some (.string a0_2) := (af dP.out 2).trans rfl; have TS : w24.cell? ⟨ep, 3, none⟩ = some (.float .f64 fu) := (af dP.out 3).trans rfl; have TT := aj dP.out 0; have TU := aj dP.out 1; have TV := aj dP.out 2; have TW := aj dP.out 3; have KN : w24.cell? ⟨fN, 0, none⟩ = some (.int .i64 a1_0) := (af fG.out 0).trans rfl; have KO : w24.cell? ⟨fN, 1, none⟩ = some (.int .i64 a1_1) := (af fG.out 1).trans rfl; have KP : w24.cell? ⟨fN, 2, none⟩ = some (.string a1_2) := (af fG.out 2).trans rfl; have KQ : w24.cell? ⟨fN, 3, none⟩ = some (.float .f64 ni) := (af fG.out 3).trans rfl; have KR := aj fG.out 0; have KS := aj fG.out 1; have KT := aj fG.out 2; have KU := aj fG.out 3))
  go_ret
  exact ⟨ez, by repeat (first | (with_reducible first | exact HB.out | apply aH | apply aG | apply bw | refine bM ?_ jc.out | refine bM ?_ pR.out) | exact HB.out)⟩
end Go.Proofs.YtfgnjndfnijjoaaGreat.Print
end
section
namespace Go.Proofs.YtfgnjndfnijjoaaGreat.Print
open Go.RowKit Go.Proofs.YtfgnjndfnijjoaaGreatW.PrintWords Go.Proofs.YtfgnjndfnijjoaaGreatW.PrintLast Go.Proofs.YtfgnjndfnijjoaaGreatW.PrintMore
attribute [local go_sem] dJ dK eF eG cZ dc dL dM
attribute [local go_sem] bH
set_option linter.unusedVariables false
set_option linter.unusedSimpArgs false
attribute [local go_sem high] NN
def dh.f (a0_0 : Int) (a0_1 : Int) (a0_2 : Int) (a0_3 : Int) (a0_4 : ByteArray) (a0_5 : Int) (a1_0 : Int) (a1_1 : Int) (a1_2 : Int) (a1_3 : Int) (a1_4 : ByteArray) (a1_5 : Int) : Option (Bool) := if (a0_0 == a1_0 && (a0_1 == a1_1)) = true then ((iJ.f a0_0 a0_1 a0_2 a0_3 a0_4 a0_5).bind fun Ae => ((iJ.f a1_0 a1_1 a1_2 a1_3 a1_4 a1_5).bind fun Af => ((jk.f Ae.1 Ae.2.1 Ae.2.2.1 Ae.2.2.2 Af.1 Af.2.1 Af.2.2.1 Af.2.2.2).bind fun Iz => (some Iz)))) else (some false)
def dh.T1 : Bool × List (List Nat × List Nat) := (true, [([], []), ([0], [0]), ([], []), ([2], [2]), ([1, 3], [1, 3]), ([4], [4]), ([5], [5]), ([6, 5, 5], [5, 6]), ([5], [5]), ([8, 7, 5], [5, 8]), ([7, 9, 9, 5], [5, 7, 9]), ([5, 10], [5, 10]), ([11, 10, 0, 1, 2, 3, 4, 5, 6, 7, 8, 9, 10, 11], [11])])
def dh.B1 : List Nat := [0, 1, 0, 4, 15, 31, 63, 127, 63, 511, 1023, 2047, 4095]
theorem dh.MV : gU .any (opsOf Tryz.f81 1) = dh.T1 := by kernel_rfl
theorem dh.JF : iT dh.T1.2 dh.B1 = true := by kernel_rfl
set_option maxHeartbeats 8000000 in
set_option maxRecDepth 100000 in
theorem dh.calls (a0_0 : Int) (a0_1 : Int) (a0_2 : Int) (a0_3 : Int) (a0_4 : ByteArray) (cO : Nat) (a0_5 : Int) (a1_0 : Int) (a1_1 : Int) (a1_2 : Int) (a1_3 : Int) (a1_4 : ByteArray) (nT : Nat) (a1_5 : Int) (r : Bool) (w : World) (DV : FB cO a0_5) (Uv : FB nT a1_5) (h : dh.f a0_0 a0_1 a0_2 a0_3 a0_4 a0_5 a1_0 a1_1 a1_2 a1_3 a1_4 a1_5 = some r) :
 Calls Tryz.prog 81 #[.agg #[.int .i64 a0_0, .int .i64 a0_1, .int .i64 a0_2, .int .i64 a0_3, .string a0_4, .float .f64 cO], .agg #[.int .i64 a1_0, .int .i64 a1_1, .int .i64 a1_2, .int .i64 a1_3, .string a1_4, .float .f64 nT]] w fun e w' => e = .returned (.bool r) ∧ Below w.heap.size w w' := by
 have hu51 := Tryz.underlying51; have hu48 := Tryz.underlying48; have HB := Aside0.mk (Below.refl w.heap.size w); have H := h; unfold dh.f at H; clear h
 by_cases c3 : (a0_0 == a1_0 && (a0_1 == a1_1)) = true
 ·
  rw [if_pos c3] at H; have gD : (a0_0 == a1_0 && (a0_1 == a1_1)) = true := c3; (try (have kT : decide (a0_0 = a1_0 && (a0_1 == a1_1)) = true := by simpa using c3)); (try (have o5 : (a0_0 == a1_0 && (a0_1 == a1_1)) = true := by simpa using c3)); clear c3; obtain ⟨⟨IA, IB, IC, MW⟩, A4, H⟩ := bnz H; (try dsimp only at H); obtain ⟨⟨ID, IE, IG, MX⟩, A5, H⟩ := bnz H; (try dsimp only at H); obtain ⟨Iz, A6, H⟩ := bnz H; (try dsimp only at H); obtain rfl := Option.some.inj H; go_enter Tryz.func81, Tryz.ntmps81
  try go_wp2_with (first | ((with_reducible refine bG (N := 2) rfl ?_); refine bW ?hg (N := 2) ?hd (cs := #[.int .i64 a0_0, .int .i64 a0_1, .int .i64 a0_2, .int .i64 a0_3, .string a0_4, .float .f64 cO]) (t := 51) ?hr ?_; (case hd => rfl); (case hg => rfl); (case hr => first | (go_simp; done) | (go_simp; rfl)); intro gF hg w7 hbox hb; have dU := am (hbox); have Pv := am ((by rw [hg]; exact (ai (hz HB.out)) : w.heap.size ≤ gF)); have mo := am ((by rw [hg]; exact (ai (hz HB.out)) : w.heap.size ≤ gF)); replace HB := sb HB hb; clear hb hbox hg) | ((with_reducible refine bG (N := 3) rfl ?_); refine bW ?hg (N := 3) ?hd (cs := #[.int .i64 a1_0, .int .i64 a1_1, .int .i64 a1_2, .int .i64 a1_3, .string a1_4, .float .f64 nT]) (t := 51) ?hr ?_; (case hd => rfl); (case hg => rfl); (case hr => first | (go_simp; done) | (go_simp; rfl)); intro iz hg w8 hbox hb; have eS := am (hbox); have Pw := am ((by rw [hg]; exact (ai (hz1 HB.out mo.out)) : w.heap.size ≤ iz)); have uB := am ((by rw [hg]; exact (ai (hz1 HB.out mo.out)) : w.heap.size ≤ iz)); replace HB := am (aM (hz1 HB.out mo.out) hb); have Gf := am ((by rw [hg]; exact Nat.ne_of_lt (cY (g := gF) (o := .cells #[.int .i64 a0_0, .int .i64 a0_1, .int .i64 a0_2, .int .i64 a0_3, .string a0_4, .float .f64 cO] 51 (0, 0)) (kz dU.out)) : gF ≠ iz)); have Gg := am ((by rw [hg]; exact Nat.ne_of_gt (cY (g := gF) (o := .cells #[.int .i64 a0_0, .int .i64 a0_1, .int .i64 a0_2, .int .i64 a0_3, .string a0_4, .float .f64 cO] 51 (0, 0)) (kz dU.out)) : iz ≠ gF)); replace dU := am (aX (g := gF) (o := .cells #[.int .i64 a0_0, .int .i64 a0_1, .int .i64 a0_2, .int .i64 a0_3, .string a0_4, .float .f64 cO] 51 (0, 0)) (kz dU.out) hb); clear hb hbox hg))
  replace dU := am (cQ dU.out); replace eS := am (cQ eS.out); replace HB := am (bw HB.out); refine iZ (n := 13) (S := fun w' => w'.cell? ⟨gF, 0, none⟩ = some (.int .i64 a0_0) ∧ w'.cell? ⟨gF, 1, none⟩ = some (.int .i64 a0_1) ∧ w'.cell? ⟨gF, 2, none⟩ = some (.int .i64 a0_2) ∧ w'.cell? ⟨gF, 3, none⟩ = some (.int .i64 a0_3) ∧ w'.cell? ⟨gF, 4, none⟩ = some (.string a0_4) ∧ w'.cell? ⟨gF, 5, none⟩ = some (.float .f64 cO) ∧ w'.cell? ⟨iz, 0, none⟩ = some (.int .i64 a1_0) ∧ w'.cell? ⟨iz, 1, none⟩ = some (.int .i64 a1_1) ∧ w'.cell? ⟨iz, 2, none⟩ = some (.int .i64 a1_2) ∧ w'.cell? ⟨iz, 3, none⟩ = some (.int .i64 a1_3) ∧ w'.cell? ⟨iz, 4, none⟩ = some (.string a1_4) ∧ w'.cell? ⟨iz, 5, none⟩ = some (.float .f64 nT)) (ds := []) (dn 13 0) (by kernel_rfl) rfl (by kernel_rfl) ⟨(af dU.out 0).trans rfl, (af dU.out 1).trans rfl, (af dU.out 2).trans rfl, (af dU.out 3).trans rfl, (af dU.out 4).trans rfl, (af dU.out 5).trans rfl, (af eS.out 0).trans rfl, (af eS.out 1).trans rfl, (af eS.out 2).trans rfl, (af eS.out 3).trans rfl, (af eS.out 4).trans rfl, (af eS.out 5).trans rfl⟩ (fun hHeld => ?_); refine gR dh.MV dh.JF (fun HT_ HW_ => ?_); generalize w8.drew = w9 at dU eS HB hHeld ⊢; refine pz 0 5 (dn 13 1) rfl rfl HT_ ?_; refine pz 2 7 (dn 13 5) rfl rfl HT_ ?_; refine fY (i := 1) (N := some 6) (v := ?_) (a' := ?_) (dn 13 7) rfl rfl (dN HT_.out HW_.out (by kernel_rfl)) (fun _ _ _ h => h) (Or.inl ⟨by rfl, ?_⟩) hHeld ?_ ?_; rotate_left
  ·
   rintro w' ⟨s0, s1, s2, s3, s4, s5, s6, s7, s8, s9, s10, s11⟩
   go_simp
   with_reducible rfl
  rotate_left
  ·
   simp only [Act.put, List.setIfInBounds_toArray, List.set_cons_zero, List.set_cons_succ, bN, bR]
   rfl
  refine fY (i := 3) (N := some 8) (v := ?_) (a' := ?_) (dn 13 15) rfl rfl (dN HT_.out HW_.out (by kernel_rfl)) (fun _ _ _ h => h) (Or.inl ⟨by rfl, ?_⟩) hHeld ?_ ?_; rotate_left
  ·
   rintro w' ⟨s0, s1, s2, s3, s4, s5, s6, s7, s8, s9, s10, s11⟩
   go_simp
   with_reducible rfl
  rotate_left
  ·
   simp only [Act.put, List.setIfInBounds_toArray, List.set_cons_zero, List.set_cons_succ, bN, bR]
   rfl
  refine pz 4 9 (dn 13 31) rfl rfl HT_ ?_; refine pz 5 10 (dn 13 63) rfl rfl HT_ ?_; refine fY (i := 6) (N := some 11) (v := ?_) (a' := ?_) (dn 13 127) rfl rfl (dN HT_.out HW_.out (by kernel_rfl)) (fun _ _ _ h => h) (Or.inl ⟨by rfl, ?_⟩) hHeld ?_ ?_; rotate_left
  ·
   rintro w' ⟨s0, s1, s2, s3, s4, s5, s6, s7, s8, s9, s10, s11⟩
   go_simp
   with_reducible rfl
  rotate_left
  ·
   simp only [Act.put, List.setIfInBounds_toArray, List.set_cons_zero, List.set_cons_succ, bN, bR]
   rfl
  refine fY (i := 8) (N := some 13) (v := ?_) (a' := ?_) (dn 13 383) rfl rfl (dN HT_.out HW_.out (by kernel_rfl)) (fun _ _ _ h => h) (Or.inl ⟨by rfl, ?_⟩) hHeld ?_ ?_; rotate_left
  ·
   rintro w' ⟨s0, s1, s2, s3, s4, s5, s6, s7, s8, s9, s10, s11⟩
   go_simp
   with_reducible rfl
  rotate_left
  ·
   simp only [Act.put, List.setIfInBounds_toArray, List.set_cons_zero, List.set_cons_succ, bN, bR]
   rfl
  refine iB (i := 7) (N := some 12) (dn 13 511) rfl rfl (fP HT_.out (by kernel_rfl)) (by decide) (fun K hK => ?_); refine mS Tryz.func134 (by kernel_rfl) rfl #[.agg #[.int .i64 a0_0, .int .i64 a0_1, .int .i64 a0_2, .int .i64 a0_3, .string a0_4, .float .f64 cO]] (by rfl) rfl rfl mz ?_
  with_reducible refine (iJ.calls a0_0 a0_1 a0_2 a0_3 a0_4 _ a0_5 IA IB IC MW _ ?side1 A4.out).mono ?_
  (case side1 => exact fz); rintro e w10 ⟨Px, rfl, Uw, hb⟩; refine ⟨_, rfl, ?_⟩; replace dU := am (aX (g := gF) (o := .cells #[.int .i64 a0_0, .int .i64 a0_1, .int .i64 a0_2, .int .i64 a0_3, .string a0_4, .float .f64 cO] 51 (0, 0)) (kz dU.out) hb); replace eS := am (aX (g := iz) (o := .cells #[.int .i64 a1_0, .int .i64 a1_1, .int .i64 a1_2, .int .i64 a1_3, .string a1_4, .float .f64 nT] 51 (0, 0)) (kz eS.out) hb); replace HB := am (aM (by repeat (first | (with_reducible first | exact HB.out | apply aH | apply aG | apply bw | refine bM ?_ mo.out | refine bM ?_ uB.out) | exact HB.out)) hb); (try clear hb); (try clear hb2); (try clear hk); (try clear hi); refine hK.out _ _ ⟨(af dU.out 0).trans rfl, (af dU.out 1).trans rfl, (af dU.out 2).trans rfl, (af dU.out 3).trans rfl, (af dU.out 4).trans rfl, (af dU.out 5).trans rfl, (af eS.out 0).trans rfl, (af eS.out 1).trans rfl, (af eS.out 2).trans rfl, (af eS.out 3).trans rfl, (af eS.out 4).trans rfl, (af eS.out 5).trans rfl⟩ (fun hHeld => ?_); clear hK K; refine dH (a' := ?_) ?_ ?_; rotate_left
  ·
   show Act.put _ (some 12) _ = _; simp only [Act.put, List.setIfInBounds_toArray, List.set_cons_zero, List.set_cons_succ, bN, bR]
   rfl
  refine iB (i := 9) (N := some 14) (dn 13 1023) rfl rfl (fP HT_.out (by kernel_rfl)) (by decide) (fun K hK => ?_); refine mS Tryz.func134 (by kernel_rfl) rfl #[.agg #[.int .i64 a1_0, .int .i64 a1_1, .int .i64 a1_2, .int .i64 a1_3, .string a1_4, .float .f64 nT]] (by rfl) rfl rfl mz ?_
  with_reducible refine (iJ.calls a1_0 a1_1 a1_2 a1_3 a1_4 _ a1_5 ID IE IG MX _ ?side1 A5.out).mono ?_
  (case side1 => exact fz); rintro e w11 ⟨Py, rfl, Ux, hb⟩; refine ⟨_, rfl, ?_⟩; replace dU := am (aX (g := gF) (o := .cells #[.int .i64 a0_0, .int .i64 a0_1, .int .i64 a0_2, .int .i64 a0_3, .string a0_4, .float .f64 cO] 51 (0, 0)) (kz dU.out) hb); replace eS := am (aX (g := iz) (o := .cells #[.int .i64 a1_0, .int .i64 a1_1, .int .i64 a1_2, .int .i64 a1_3, .string a1_4, .float .f64 nT] 51 (0, 0)) (kz eS.out) hb); replace HB := am (aM (by repeat (first | (with_reducible first | exact HB.out | apply aH | apply aG | apply bw | refine bM ?_ mo.out | refine bM ?_ uB.out) | exact HB.out)) hb); (try clear hb); (try clear hb2); (try clear hk); (try clear hi); refine hK.out _ _ ⟨(af dU.out 0).trans rfl, (af dU.out 1).trans rfl, (af dU.out 2).trans rfl, (af dU.out 3).trans rfl, (af dU.out 4).trans rfl, (af dU.out 5).trans rfl, (af eS.out 0).trans rfl, (af eS.out 1).trans rfl, (af eS.out 2).trans rfl, (af eS.out 3).trans rfl, (af eS.out 4).trans rfl, (af eS.out 5).trans rfl⟩ (fun hHeld => ?_); clear hK K; refine dH (a' := ?_) ?_ ?_; rotate_left
  ·
   show Act.put _ (some 14) _ = _; simp only [Act.put, List.setIfInBounds_toArray, List.set_cons_zero, List.set_cons_succ, bN, bR]
   rfl
  refine iB (i := 10) (N := some 15) (dn 13 2047) rfl rfl (fP HT_.out (by kernel_rfl)) (by decide) (fun K hK => ?_); refine mS Tryz.func142 (by kernel_rfl) rfl #[.agg #[.int .i64 IA, .int .i64 IB, .string IC, .float .f64 Px], .agg #[.int .i64 ID, .int .i64 IE, .string IG, .float .f64 Py]] (by rfl) rfl rfl mz ?_
  with_reducible refine (jk.calls IA IB IC _ MW ID IE IG _ MX Iz _ ?side1 ?side2 A6.out).mono ?_
  (case side1 => exact fz); (case side2 => exact fz); rintro e w12 ⟨rfl, hb⟩; refine ⟨_, rfl, ?_⟩; replace dU := am (aX (g := gF) (o := .cells #[.int .i64 a0_0, .int .i64 a0_1, .int .i64 a0_2, .int .i64 a0_3, .string a0_4, .float .f64 cO] 51 (0, 0)) (kz dU.out) hb); replace eS := am (aX (g := iz) (o := .cells #[.int .i64 a1_0, .int .i64 a1_1, .int .i64 a1_2, .int .i64 a1_3, .string a1_4, .float .f64 nT] 51 (0, 0)) (kz eS.out) hb); replace HB := am (aM (by repeat (first | (with_reducible first | exact HB.out | apply aH | apply aG | apply bw | refine bM ?_ mo.out | refine bM ?_ uB.out) | exact HB.out)) hb); (try clear hb); (try clear hb2); (try clear hk); (try clear hi); refine hK.out _ _ ⟨(af dU.out 0).trans rfl, (af dU.out 1).trans rfl, (af dU.out 2).trans rfl, (af dU.out 3).trans rfl, (af dU.out 4).trans rfl, (af dU.out 5).trans rfl, (af eS.out 0).trans rfl, (af eS.out 1).trans rfl, (af eS.out 2).trans rfl, (af eS.out 3).trans rfl, (af eS.out 4).trans rfl, (af eS.out 5).trans rfl⟩ (fun hHeld => ?_); clear hK K; refine dH (a' := ?_) ?_ ?_; rotate_left
  ·
   show Act.put _ (some 15) _ = _; simp only [Act.put, List.setIfInBounds_toArray, List.set_cons_zero, List.set_cons_succ, bN, bR]
   rfl
  refine pz 11 16 (dn 13 4095) rfl rfl HT_ ?_; refine pz 12 4 (dn 13 8191) rfl rfl HT_ ?_; refine jF (iS HT_.out (by kernel_rfl)) ?_
  try go_wp2
  go_ret
  exact ⟨ez, by repeat (first | (with_reducible first | exact HB.out | apply aH | apply aG | apply bw | refine bM ?_ mo.out | refine bM ?_ uB.out) | exact HB.out)⟩
 ·
  rw [if_neg c3] at H; have gD : (a0_0 == a1_0 && (a0_1 == a1_1)) = false := by simpa using c3
  (try (have kT : decide (a0_0 = a1_0 && (a0_1 == a1_1)) = false := by simpa using c3)); (try (have o5 : (a0_0 == a1_0 && (a0_1 == a1_1)) = false := by simpa using c3)); (try (have DJ : ¬ (a0_0 = a1_0 && (a0_1 == a1_1)) := by simpa using c3)); clear c3; obtain rfl := Option.some.inj H; go_enter Tryz.func81, Tryz.ntmps81
  try go_wp2_with (first | ((with_reducible refine bG (N := 2) rfl ?_); refine bW ?hg (N := 2) ?hd (cs := #[.int .i64 a0_0, .int .i64 a0_1, .int .i64 a0_2, .int .i64 a0_3, .string a0_4, .float .f64 cO]) (t := 51) ?hr ?_; (case hd => rfl); (case hg => rfl); (case hr => first | (go_simp; done) | (go_simp; rfl)); intro gF hg w13 hbox hb; have dU := am (hbox); have Pv := am ((by rw [hg]; exact (ai (hz HB.out)) : w.heap.size ≤ gF)); have mo := am ((by rw [hg]; exact (ai (hz HB.out)) : w.heap.size ≤ gF)); replace HB := sb HB hb; clear hb hbox hg) | ((with_reducible refine bG (N := 3) rfl ?_); refine bW ?hg (N := 3) ?hd (cs := #[.int .i64 a1_0, .int .i64 a1_1, .int .i64 a1_2, .int .i64 a1_3, .string a1_4, .float .f64 nT]) (t := 51) ?hr ?_; (case hd => rfl); (case hg => rfl); (case hr => first | (go_simp; done) | (go_simp; rfl)); intro iz hg w14 hbox hb; have eS := am (hbox); have Pw := am ((by rw [hg]; exact (ai (hz1 HB.out mo.out)) : w.heap.size ≤ iz)); have uB := am ((by rw [hg]; exact (ai (hz1 HB.out mo.out)) : w.heap.size ≤ iz)); replace HB := am (aM (hz1 HB.out mo.out) hb); have Gf := am ((by rw [hg]; exact Nat.ne_of_lt (cY (g := gF) (o := .cells #[.int .i64 a0_0, .int .i64 a0_1, .int .i64 a0_2, .int .i64 a0_3, .string a0_4, .float .f64 cO] 51 (0, 0)) (kz dU.out)) : gF ≠ iz)); have Gg := am ((by rw [hg]; exact Nat.ne_of_gt (cY (g := gF) (o := .cells #[.int .i64 a0_0, .int .i64 a0_1, .int .i64 a0_2, .int .i64 a0_3, .string a0_4, .float .f64 cO] 51 (0, 0)) (kz dU.out)) : iz ≠ gF)); replace dU := am (aX (g := gF) (o := .cells #[.int .i64 a0_0, .int .i64 a0_1, .int .i64 a0_2, .int .i64 a0_3, .string a0_4, .float .f64 cO] 51 (0, 0)) (kz dU.out) hb); clear hb hbox hg))
  replace dU := am (cQ dU.out); replace eS := am (cQ eS.out); replace HB := am (bw HB.out); refine iZ (n := 13) (S := fun w' => w'.cell? ⟨gF, 0, none⟩ = some (.int .i64 a0_0) ∧ w'.cell? ⟨gF, 1, none⟩ = some (.int .i64 a0_1) ∧ w'.cell? ⟨gF, 2, none⟩ = some (.int .i64 a0_2) ∧ w'.cell? ⟨gF, 3, none⟩ = some (.int .i64 a0_3) ∧ w'.cell? ⟨gF, 4, none⟩ = some (.string a0_4) ∧ w'.cell? ⟨gF, 5, none⟩ = some (.float .f64 cO) ∧ w'.cell? ⟨iz, 0, none⟩ = some (.int .i64 a1_0) ∧ w'.cell? ⟨iz, 1, none⟩ = some (.int .i64 a1_1) ∧ w'.cell? ⟨iz, 2, none⟩ = some (.int .i64 a1_2) ∧ w'.cell? ⟨iz, 3, none⟩ = some (.int .i64 a1_3) ∧ w'.cell? ⟨iz, 4, none⟩ = some (.string a1_4) ∧ w'.cell? ⟨iz, 5, none⟩ = some (.float .f64 nT)) (ds := []) (dn 13 0) (by kernel_rfl) rfl (by kernel_rfl) ⟨(af dU.out 0).trans rfl, (af dU.out 1).trans rfl, (af dU.out 2).trans rfl, (af dU.out 3).trans rfl, (af dU.out 4).trans rfl, (af dU.out 5).trans rfl, (af eS.out 0).trans rfl, (af eS.out 1).trans rfl, (af eS.out 2).trans rfl, (af eS.out 3).trans rfl, (af eS.out 4).trans rfl, (af eS.out 5).trans rfl⟩ (fun hHeld => ?_); refine gR dh.MV dh.JF (fun HT_ HW_ => ?_); generalize w14.drew = w15 at dU eS HB hHeld ⊢; refine pz 0 5 (dn 13 1) rfl rfl HT_ ?_; refine pz 2 7 (dn 13 5) rfl rfl HT_ ?_; refine fY (i := 1) (N := some 6) (v := ?_) (a' := ?_) (dn 13 7) rfl rfl (dN HT_.out HW_.out (by kernel_rfl)) (fun _ _ _ h => h) (Or.inl ⟨by rfl, ?_⟩) hHeld ?_ ?_; rotate_left
  ·
   rintro w' ⟨s0, s1, s2, s3, s4, s5, s6, s7, s8, s9, s10, s11⟩
   go_simp
   with_reducible rfl
  rotate_left
  ·
   simp only [Act.put, List.setIfInBounds_toArray, List.set_cons_zero, List.set_cons_succ, bN, bR]
   rfl
  refine fY (i := 3) (N := some 8) (v := ?_) (a' := ?_) (dn 13 15) rfl rfl (dN HT_.out HW_.out (by kernel_rfl)) (fun _ _ _ h => h) (Or.inl ⟨by rfl, ?_⟩) hHeld ?_ ?_; rotate_left
  ·
   rintro w' ⟨s0, s1, s2, s3, s4, s5, s6, s7, s8, s9, s10, s11⟩
   go_simp
   with_reducible rfl
  rotate_left
  ·
   simp only [Act.put, List.setIfInBounds_toArray, List.set_cons_zero, List.set_cons_succ, bN, bR]
   rfl
  refine pz 4 9 (dn 13 31) rfl rfl HT_ ?_; refine pz 5 10 (dn 13 63) rfl rfl HT_ ?_; refine fq (i := 6) (N := some 11) (v := undef) (a' := ?_) (dn 13 127) rfl rfl (qm HT_.out (by kernel_rfl)) (fun _ _ _ h => h) (Or.inr ⟨by rfl, rfl⟩) ?_ ?_; rotate_left
  ·
   simp only [Act.put, List.setIfInBounds_toArray, List.set_cons_zero, List.set_cons_succ, bN, bR]
   rfl
  refine fq (i := 7) (N := some 12) (v := undef) (a' := ?_) (dn 13 255) rfl rfl (qm HT_.out (by kernel_rfl)) (fun _ _ _ h => h) (Or.inr ⟨by rfl, rfl⟩) ?_ ?_; rotate_left
  ·
   simp only [Act.put, List.setIfInBounds_toArray, List.set_cons_zero, List.set_cons_succ, bN, bR]
   rfl
  refine fq (i := 8) (N := some 13) (v := undef) (a' := ?_) (dn 13 511) rfl rfl (qm HT_.out (by kernel_rfl)) (fun _ _ _ h => h) (Or.inr ⟨by rfl, rfl⟩) ?_ ?_; rotate_left
  ·
   simp only [Act.put, List.setIfInBounds_toArray, List.set_cons_zero, List.set_cons_succ, bN, bR]
   rfl
  refine fq (i := 9) (N := some 14) (v := undef) (a' := ?_) (dn 13 1023) rfl rfl (qm HT_.out (by kernel_rfl)) (fun _ _ _ h => h) (Or.inr ⟨by rfl, rfl⟩) ?_ ?_; rotate_left
  ·
   simp only [Act.put, List.setIfInBounds_toArray, List.set_cons_zero, List.set_cons_succ, bN, bR]
   rfl
  refine fq (i := 10) (N := some 15) (v := undef) (a' := ?_) (dn 13 2047) rfl rfl (qm HT_.out (by kernel_rfl)) (fun _ _ _ h => h) (Or.inr ⟨by rfl, rfl⟩) ?_ ?_; rotate_left
  ·
   simp only [Act.put, List.setIfInBounds_toArray, List.set_cons_zero, List.set_cons_succ, bN, bR]
   rfl
  refine pz 11 16 (dn 13 4095) rfl rfl HT_ ?_; refine pz 12 4 (dn 13 8191) rfl rfl HT_ ?_; refine jF (iS HT_.out (by kernel_rfl)) ?_
  try go_wp2
  go_ret
  exact ⟨ez, by repeat (first | (with_reducible first | exact HB.out | apply aH | apply aG | apply bw | refine bM ?_ mo.out | refine bM ?_ uB.out) | exact HB.out)⟩
def aW.l0 : Nat → List (S51) → List (S51) → Int → Option (Bool)
 | 0, _, _, _ => none
 | k + 1, x0, x1, x5 => if x5 < (x0.length : Int) then (if 0 ≤ x5 then (if x5 < (x1.length : Int) then ((dh.f ((aa x0 x5).f0.f0) ((aa x0 x5).f0.f1) ((aa x0 x5).f1) ((aa x0 x5).f2) ((aa x0 x5).f3) ((aa x0 x5).f4) ((aa x1 x5).f0.f0) ((aa x1 x5).f0.f1) ((aa x1 x5).f1) ((aa x1 x5).f2) ((aa x1 x5).f3) ((aa x1 x5).f4)).bind fun II => (if II = true then (aW.l0 k x0 x1 (wrap64 (x5 + 1))) else (some false))) else (none)) else (none)) else (some true)
def aW.f (k : Nat) (l0 : List (S51)) (l1 : List (S51)) : Option (Bool) := if (l0.length : Int) = (l1.length : Int) then (aW.l0 k l0 l1 0) else (some false)
theorem aW.cF : ∀ k, (∀ y0 y1 y2, LeO (aW.l0 k y0 y1 y2) (aW.l0 (k + 1) y0 y1 y2))
 | 0 => fun _ _ _ r h => by simp [aW.l0] at h
 | k + 1 => by
  have ih0 := aW.cF k
  ·
   intro y0 y1 y2; unfold aW.l0
   repeat' first
   | (with_reducible exact ih0 _ _ _)
   | (with_reducible exact LeO.refl _)
   | (with_reducible exact LeO.none _)
   | (with_reducible refine LeO.ite ?_ ?_)
   | (with_reducible refine LeO.bind ?_ (fun _ => ?_))
theorem aW.mono : ∀ a0 a1 k, LeO (aW.f k a0 a1) (aW.f (k + 1) a0 a1) := by
 intro a0 a1 k; have ih0 := aW.cF k; unfold aW.f
 repeat' first
  | (with_reducible exact ih0 _ _ _)
  | (with_reducible exact LeO.refl _)
  | (with_reducible exact LeO.none _)
  | (with_reducible refine LeO.ite ?_ ?_)
  | (with_reducible refine LeO.bind ?_ (fun _ => ?_))
def aW.T6 : Bool × List (List Nat × List Nat) := (true, [([], []), ([], []), ([0, 1], [0, 1]), ([2], [2]), ([], []), ([], []), ([4, 5], [4, 5]), ([6], [6]), ([3, 7], [3, 7]), ([8], [8])])
def aW.B6 : List Nat := [0, 0, 3, 7, 0, 0, 48, 112, 255, 511]
theorem aW.BH : gU .any (opsOf Tryz.f25 6) = aW.T6 := by kernel_rfl
theorem aW.wO : iT aW.T6.2 aW.B6 = true := by kernel_rfl
set_option maxHeartbeats 8000000 in
set_option maxRecDepth 100000 in
theorem aW.calls (k : Nat) (A0 : Option Addr) (c0 : Nat) (l0 : List (S51)) (A1 : Option Addr) (c1 : Nat) (l1 : List (S51)) (r : Bool) (w : World) (hr0 : Kd.C k51 w A0 l0.length l0) (hc0 : l0.length ≤ c0) (hr1 : Kd.C k51 w A1 l1.length l1) (hc1 : l1.length ≤ c1) (h : aW.f k l0 l1 = some r) :
 Calls Tryz.prog 25 #[.slice A0 l0.length c0, .slice A1 l1.length c1] w fun e w' => e = .returned (.bool r) ∧ Below w.heap.size w w' := by
 have hu51 := Tryz.underlying51; have HR0 := Aside0.mk hr0; have HC0 := Aside0.mk hc0; clear hr0 hc0; have HR1 := Aside0.mk hr1; have HC1 := Aside0.mk hc1; clear hr1 hc1; have HB := Aside0.mk (Below.refl w.heap.size w); have H := h; unfold aW.f at H; clear h
 by_cases c3 : (l0.length : Int) = (l1.length : Int)
 ·
  rw [if_pos c3] at H; have gD : ((l0.length : Int) == (l1.length : Int)) = true := beq_iff_eq.mpr c3; have kT : ((l0.length : Int) != (l1.length : Int)) = false := bne_eq_false_iff_eq.mpr c3; have o5 : (l0.length == l1.length) = true := by first | simpa using c3 | (simp at c3 ⊢; omega)
  clear c3; have H' := Aside0.mk H; clear H; go_enter Tryz.func25, Tryz.ntmps25
  go_wp2
  go_loopg [5] k (fun kq v5 w' => ∃ (aT : Int), v5 = .int .i64 aT ∧ Aside0 (aW.l0 kq l0 l1 aT = some r) ∧ Aside0 (kq ≤ k) ∧ Aside0 (Below w.heap.size w w'))
  case atStart => exact ⟨(0), sz, H', ⟨Nat.le_refl _⟩, ⟨hz HB.out⟩⟩
  case round =>
   clear H'
   try clear c1
   try clear c2
   try clear p2
   try clear c3
   try clear gD
   try clear kT
   try clear o5
   obtain ⟨aT, rfl, HA, HK1, HB⟩ := hrel
   cases gk with
   | zero => exact absurd HA.out (by simp [aW.l0])
   | succ k1 =>
    have H := HA.out; clear HA; simp only [aW.l0] at H
    by_cases c4 : aT < (l0.length : Int)
    ·
     rw [if_pos c4] at H; have iC := decide_eq_true c4; clear c4; obtain ⟨c5, H⟩ := ifz H; have fk : decide (0 ≤ aT) = true := decide_eq_true c5; clear c5; obtain ⟨c6, H⟩ := ifz H; have oC : decide (aT < (l1.length : Int)) = true := decide_eq_true c6; clear c6; obtain ⟨II, A7, H⟩ := bnz H; (try dsimp only at H)
     by_cases c8 : II = true
     ·
      subst c8; rw [if_pos rfl] at H; have H' := Aside0.mk H; clear H
      try go_wp2
      replace HB := am (bw HB.out); have p402 : 0 ≤ (aT : Int) := of_decide_eq_true az; have q402 : aT < (l0.length : Int) := of_decide_eq_true az; obtain ⟨iK, qN, e402, lN, lO, lQ, lR, lS, lT, K6⟩ := kF HR0.out aT p402 q402; have qO := lT; have qP := lS; have qQ := lR; have qR := lQ; have qU := lO; have qV := lN
      cases e402
      replace lN := cz HB.out lN; replace lO := cz HB.out lO; replace lQ := cz HB.out lQ; replace lR := cz HB.out lR; replace lS := cz HB.out lS; replace lT := cz HB.out lT; replace p402 := eq_true p402; replace q402 := eq_true q402; have p403 : 0 ≤ (aT : Int) := of_decide_eq_true az; have q403 : aT < (l1.length : Int) := of_decide_eq_true az; obtain ⟨iL, qW, e403, lU, lV, lW, lX, lY, lZ, K7⟩ := kF HR1.out aT p403 q403; have qX := lZ; have qY := lY; have qZ := lX; have ri := lW; have rj := lV; have rm := lU
      cases e403
      replace lU := cz HB.out lU; replace lV := cz HB.out lV; replace lW := cz HB.out lW; replace lX := cz HB.out lX; replace lY := cz HB.out lY; replace lZ := cz HB.out lZ; replace p403 := eq_true p403; replace q403 := eq_true q403; refine iZ (n := 10) (S := fun w' => w'.cell? (iK.add ((aT).toNat * 6)) = some (.int .i64 ((aa l0 aT).f0.f0)) ∧ w'.cell? ⟨(iK.add ((aT).toNat * 6)).block, (iK.add ((aT).toNat * 6)).off + 1, none⟩ = some (.int .i64 ((aa l0 aT).f0.f1)) ∧ w'.cell? ⟨(iK.add ((aT).toNat * 6)).block, (iK.add ((aT).toNat * 6)).off + 2, none⟩ = some (.int .i64 ((aa l0 aT).f1)) ∧ w'.cell? ⟨(iK.add ((aT).toNat * 6)).block, (iK.add ((aT).toNat * 6)).off + 3, none⟩ = some (.int .i64 ((aa l0 aT).f2)) ∧ w'.cell? ⟨(iK.add ((aT).toNat * 6)).block, (iK.add ((aT).toNat * 6)).off + 4, none⟩ = some (.string ((aa l0 aT).f3)) ∧ w'.cell? ⟨(iK.add ((aT).toNat * 6)).block, (iK.add ((aT).toNat * 6)).off + 5, none⟩ = some (.float .f64 qN) ∧ w'.cell? (iL.add ((aT).toNat * 6)) = some (.int .i64 ((aa l1 aT).f0.f0)) ∧ w'.cell? ⟨(iL.add ((aT).toNat * 6)).block, (iL.add ((aT).toNat * 6)).off + 1, none⟩ = some (.int .i64 ((aa l1 aT).f0.f1)) ∧ w'.cell? ⟨(iL.add ((aT).toNat * 6)).block, (iL.add ((aT).toNat * 6)).off + 2, none⟩ = some (.int .i64 ((aa l1 aT).f1)) ∧ w'.cell? ⟨(iL.add ((aT).toNat * 6)).block, (iL.add ((aT).toNat * 6)).off + 3, none⟩ = some (.int .i64 ((aa l1 aT).f2)) ∧ w'.cell? ⟨(iL.add ((aT).toNat * 6)).block, (iL.add ((aT).toNat * 6)).off + 4, none⟩ = some (.string ((aa l1 aT).f3)) ∧ w'.cell? ⟨(iL.add ((aT).toNat * 6)).block, (iL.add ((aT).toNat * 6)).off + 5, none⟩ = some (.float .f64 qW)) (ds := []) (dn 10 0) (by kernel_rfl) rfl (by kernel_rfl) ⟨(cz HB.out qV), (cz HB.out qU), (cz HB.out qR), (cz HB.out qQ), (cz HB.out qP), (cz HB.out qO), (cz HB.out rm), (cz HB.out rj), (cz HB.out ri), (cz HB.out qZ), (cz HB.out qY), (cz HB.out qX)⟩ (fun hHeld => ?_); refine gR aW.BH aW.wO (fun HT_ HW_ => ?_); generalize wr.drew = w9 at HB lN lO lQ lR lS lT lU lV lW lX lY lZ hHeld ⊢; refine pz 0 17 (dn 10 1) rfl rfl HT_ ?_; refine pz 1 18 (dn 10 3) rfl rfl HT_ ?_; refine pz 2 19 (dn 10 7) rfl rfl HT_ ?_; refine pz 4 21 (dn 10 23) rfl rfl HT_ ?_; refine pz 5 22 (dn 10 55) rfl rfl HT_ ?_; refine pz 6 23 (dn 10 119) rfl rfl HT_ ?_; refine fY (i := 3) (N := some 20) (v := ?_) (a' := ?_) (dn 10 127) rfl rfl (dN HT_.out HW_.out (by kernel_rfl)) (fun _ _ _ h => h) (Or.inl ⟨by rfl, ?_⟩) hHeld ?_ ?_; rotate_left
      ·
       rintro w' ⟨s0, s1, s2, s3, s4, s5, s6, s7, s8, s9, s10, s11⟩
       go_simp
       with_reducible rfl
      rotate_left
      ·
       simp only [Act.put, List.setIfInBounds_toArray, List.set_cons_zero, List.set_cons_succ, bN, bR]
       rfl
      refine fY (i := 7) (N := some 24) (v := ?_) (a' := ?_) (dn 10 255) rfl rfl (dN HT_.out HW_.out (by kernel_rfl)) (fun _ _ _ h => h) (Or.inl ⟨by rfl, ?_⟩) hHeld ?_ ?_; rotate_left
      ·
       rintro w' ⟨s0, s1, s2, s3, s4, s5, s6, s7, s8, s9, s10, s11⟩
       go_simp
       with_reducible rfl
      rotate_left
      ·
       simp only [Act.put, List.setIfInBounds_toArray, List.set_cons_zero, List.set_cons_succ, bN, bR]
       rfl
      refine iB (i := 8) (N := some 25) (dn 10 511) rfl rfl (fP HT_.out (by kernel_rfl)) (by decide) (fun K hK => ?_); refine mS Tryz.func81 (by kernel_rfl) rfl #[.agg #[.int .i64 ((aa l0 aT).f0.f0), .int .i64 ((aa l0 aT).f0.f1), .int .i64 ((aa l0 aT).f1), .int .i64 ((aa l0 aT).f2), .string ((aa l0 aT).f3), .float .f64 qN], .agg #[.int .i64 ((aa l1 aT).f0.f0), .int .i64 ((aa l1 aT).f0.f1), .int .i64 ((aa l1 aT).f1), .int .i64 ((aa l1 aT).f2), .string ((aa l1 aT).f3), .float .f64 qW]] (by rfl) rfl rfl mz ?_
      with_reducible refine (dh.calls ((aa l0 aT).f0.f0) ((aa l0 aT).f0.f1) ((aa l0 aT).f1) ((aa l0 aT).f2) ((aa l0 aT).f3) _ ((aa l0 aT).f4) ((aa l1 aT).f0.f0) ((aa l1 aT).f0.f1) ((aa l1 aT).f1) ((aa l1 aT).f2) ((aa l1 aT).f3) _ ((aa l1 aT).f4) true _ ?side1 ?side2 A7.out).mono ?_
      (case side1 => exact fz); (case side2 => exact fz); rintro e w10 ⟨rfl, hb⟩; refine ⟨_, rfl, ?_⟩; replace HB := sb HB hb; (try clear hb); (try clear hb2); (try clear hk); (try clear hi); refine hK.out _ _ ⟨(cz HB.out qV), (cz HB.out qU), (cz HB.out qR), (cz HB.out qQ), (cz HB.out qP), (cz HB.out qO), (cz HB.out rm), (cz HB.out rj), (cz HB.out ri), (cz HB.out qZ), (cz HB.out qY), (cz HB.out qX)⟩ (fun hHeld => ?_); clear hK K; refine dH (a' := ?_) ?_ ?_; rotate_left
      ·
       show Act.put _ (some 25) _ = _; simp only [Act.put, List.setIfInBounds_toArray, List.set_cons_zero, List.set_cons_succ, bN, bR]
       rfl
      refine pz 9 26 (dn 10 1023) rfl rfl HT_ ?_; refine jF (iS HT_.out (by kernel_rfl)) ?_
      try go_wp2
      go_roundg k1
      case measure => have := HK1.out; omega
      case rel => exact ⟨(wrap64 (aT + 1)), sz, H', ⟨by have := HK1.out; omega⟩, ⟨hz HB.out⟩⟩
     ·
      replace c8 := Bool.eq_false_iff.mpr c8; subst c8; rw [if_neg (show ¬ (false = true) by decide)] at H; obtain rfl := Option.some.inj H
      try go_wp2
      replace HB := am (bw HB.out); have p402 : 0 ≤ (aT : Int) := of_decide_eq_true az; have q402 : aT < (l0.length : Int) := of_decide_eq_true az; obtain ⟨iK, qN, e402, lN, lO, lQ, lR, lS, lT, K6⟩ := kF HR0.out aT p402 q402; have qO := lT; have qP := lS; have qQ := lR; have qR := lQ; have qU := lO; have qV := lN
      cases e402
      replace lN := cz HB.out lN; replace lO := cz HB.out lO; replace lQ := cz HB.out lQ; replace lR := cz HB.out lR; replace lS := cz HB.out lS; replace lT := cz HB.out lT; replace p402 := eq_true p402; replace q402 := eq_true q402; have p403 : 0 ≤ (aT : Int) := of_decide_eq_true az; have q403 : aT < (l1.length : Int) := of_decide_eq_true az; obtain ⟨iL, qW, e403, lU, lV, lW, lX, lY, lZ, K7⟩ := kF HR1.out aT p403 q403; have qX := lZ; have qY := lY; have qZ := lX; have ri := lW; have rj := lV; have rm := lU
      cases e403
      replace lU := cz HB.out lU; replace lV := cz HB.out lV; replace lW := cz HB.out lW; replace lX := cz HB.out lX; replace lY := cz HB.out lY; replace lZ := cz HB.out lZ; replace p403 := eq_true p403; replace q403 := eq_true q403; refine iZ (n := 10) (S := fun w' => w'.cell? (iK.add ((aT).toNat * 6)) = some (.int .i64 ((aa l0 aT).f0.f0)) ∧ w'.cell? ⟨(iK.add ((aT).toNat * 6)).block, (iK.add ((aT).toNat * 6)).off + 1, none⟩ = some (.int .i64 ((aa l0 aT).f0.f1)) ∧ w'.cell? ⟨(iK.add ((aT).toNat * 6)).block, (iK.add ((aT).toNat * 6)).off + 2, none⟩ = some (.int .i64 ((aa l0 aT).f1)) ∧ w'.cell? ⟨(iK.add ((aT).toNat * 6)).block, (iK.add ((aT).toNat * 6)).off + 3, none⟩ = some (.int .i64 ((aa l0 aT).f2)) ∧ w'.cell? ⟨(iK.add ((aT).toNat * 6)).block, (iK.add ((aT).toNat * 6)).off + 4, none⟩ = some (.string ((aa l0 aT).f3)) ∧ w'.cell? ⟨(iK.add ((aT).toNat * 6)).block, (iK.add ((aT).toNat * 6)).off + 5, none⟩ = some (.float .f64 qN) ∧ w'.cell? (iL.add ((aT).toNat * 6)) = some (.int .i64 ((aa l1 aT).f0.f0)) ∧ w'.cell? ⟨(iL.add ((aT).toNat * 6)).block, (iL.add ((aT).toNat * 6)).off + 1, none⟩ = some (.int .i64 ((aa l1 aT).f0.f1)) ∧ w'.cell? ⟨(iL.add ((aT).toNat * 6)).block, (iL.add ((aT).toNat * 6)).off + 2, none⟩ = some (.int .i64 ((aa l1 aT).f1)) ∧ w'.cell? ⟨(iL.add ((aT).toNat * 6)).block, (iL.add ((aT).toNat * 6)).off + 3, none⟩ = some (.int .i64 ((aa l1 aT).f2)) ∧ w'.cell? ⟨(iL.add ((aT).toNat * 6)).block, (iL.add ((aT).toNat * 6)).off + 4, none⟩ = some (.string ((aa l1 aT).f3)) ∧ w'.cell? ⟨(iL.add ((aT).toNat * 6)).block, (iL.add ((aT).toNat * 6)).off + 5, none⟩ = some (.float .f64 qW)) (ds := []) (dn 10 0) (by kernel_rfl) rfl (by kernel_rfl) ⟨(cz HB.out qV), (cz HB.out qU), (cz HB.out qR), (cz HB.out qQ), (cz HB.out qP), (cz HB.out qO), (cz HB.out rm), (cz HB.out rj), (cz HB.out ri), (cz HB.out qZ), (cz HB.out qY), (cz HB.out qX)⟩ (fun hHeld => ?_); refine gR aW.BH aW.wO (fun HT_ HW_ => ?_); generalize wr.drew = w11 at HB lN lO lQ lR lS lT lU lV lW lX lY lZ hHeld ⊢; refine pz 0 17 (dn 10 1) rfl rfl HT_ ?_; refine pz 1 18 (dn 10 3) rfl rfl HT_ ?_; refine pz 2 19 (dn 10 7) rfl rfl HT_ ?_; refine pz 4 21 (dn 10 23) rfl rfl HT_ ?_; refine pz 5 22 (dn 10 55) rfl rfl HT_ ?_; refine pz 6 23 (dn 10 119) rfl rfl HT_ ?_; refine fY (i := 3) (N := some 20) (v := ?_) (a' := ?_) (dn 10 127) rfl rfl (dN HT_.out HW_.out (by kernel_rfl)) (fun _ _ _ h => h) (Or.inl ⟨by rfl, ?_⟩) hHeld ?_ ?_; rotate_left
      ·
       rintro w' ⟨s0, s1, s2, s3, s4, s5, s6, s7, s8, s9, s10, s11⟩
       go_simp
       with_reducible rfl
      rotate_left
      ·
       simp only [Act.put, List.setIfInBounds_toArray, List.set_cons_zero, List.set_cons_succ, bN, bR]
       rfl
      refine fY (i := 7) (N := some 24) (v := ?_) (a' := ?_) (dn 10 255) rfl rfl (dN HT_.out HW_.out (by kernel_rfl)) (fun _ _ _ h => h) (Or.inl ⟨by rfl, ?_⟩) hHeld ?_ ?_; rotate_left
      ·
       rintro w' ⟨s0, s1, s2, s3, s4, s5, s6, s7, s8, s9, s10, s11⟩
       go_simp
       with_reducible rfl
      rotate_left
      ·
       simp only [Act.put, List.setIfInBounds_toArray, List.set_cons_zero, List.set_cons_succ, bN, bR]
       rfl
      refine iB (i := 8) (N := some 25) (dn 10 511) rfl rfl (fP HT_.out (by kernel_rfl)) (by decide) (fun K hK => ?_); refine mS Tryz.func81 (by kernel_rfl) rfl #[.agg #[.int .i64 ((aa l0 aT).f0.f0), .int .i64 ((aa l0 aT).f0.f1), .int .i64 ((aa l0 aT).f1), .int .i64 ((aa l0 aT).f2), .string ((aa l0 aT).f3), .float .f64 qN], .agg #[.int .i64 ((aa l1 aT).f0.f0), .int .i64 ((aa l1 aT).f0.f1), .int .i64 ((aa l1 aT).f1), .int .i64 ((aa l1 aT).f2), .string ((aa l1 aT).f3), .float .f64 qW]] (by rfl) rfl rfl mz ?_
      with_reducible refine (dh.calls ((aa l0 aT).f0.f0) ((aa l0 aT).f0.f1) ((aa l0 aT).f1) ((aa l0 aT).f2) ((aa l0 aT).f3) _ ((aa l0 aT).f4) ((aa l1 aT).f0.f0) ((aa l1 aT).f0.f1) ((aa l1 aT).f1) ((aa l1 aT).f2) ((aa l1 aT).f3) _ ((aa l1 aT).f4) false _ ?side1 ?side2 A7.out).mono ?_
      (case side1 => exact fz); (case side2 => exact fz); rintro e w12 ⟨rfl, hb⟩; refine ⟨_, rfl, ?_⟩; replace HB := sb HB hb; (try clear hb); (try clear hb2); (try clear hk); (try clear hi); refine hK.out _ _ ⟨(cz HB.out qV), (cz HB.out qU), (cz HB.out qR), (cz HB.out qQ), (cz HB.out qP), (cz HB.out qO), (cz HB.out rm), (cz HB.out rj), (cz HB.out ri), (cz HB.out qZ), (cz HB.out qY), (cz HB.out qX)⟩ (fun hHeld => ?_); clear hK K; refine dH (a' := ?_) ?_ ?_; rotate_left
      ·
       show Act.put _ (some 25) _ = _; simp only [Act.put, List.setIfInBounds_toArray, List.set_cons_zero, List.set_cons_succ, bN, bR]
       rfl
      refine pz 9 26 (dn 10 1023) rfl rfl HT_ ?_; refine jF (iS HT_.out (by kernel_rfl)) ?_
      try go_wp2
      go_ret
      exact ⟨ez, hz HB.out⟩
    ·
     rw [if_neg c4] at H; have iC := decide_eq_false c4; clear c4; obtain rfl := Option.some.inj H
     go_wp2
     go_ret
     exact ⟨ez, hz HB.out⟩
 ·
  rw [if_neg c3] at H; have gD : ((l0.length : Int) == (l1.length : Int)) = false := beq_eq_false_iff_ne.mpr c3; have kT : ((l0.length : Int) != (l1.length : Int)) = true := bne_iff_ne.mpr c3; have o5 : (l0.length == l1.length) = false := by first | simpa using c3 | (simp at c3 ⊢; omega)
  obtain rfl := Option.some.inj H; go_enter Tryz.func25, Tryz.ntmps25
  go_wp2
  go_ret
  exact ⟨ez, hz HB.out⟩
end Go.Proofs.YtfgnjndfnijjoaaGreat.Print
end
section
namespace Go.Proofs.YtfgnjndfnijjoaaGreat.Print
open Go.RowKit Go.Proofs.YtfgnjndfnijjoaaGreatW.PrintWords Go.Proofs.YtfgnjndfnijjoaaGreatW.PrintLast Go.Proofs.YtfgnjndfnijjoaaGreatW.PrintMore
attribute [local go_sem] dJ dK eF eG cZ dc dL dM
attribute [local go_sem] bH
set_option linter.unusedVariables false
set_option linter.unusedSimpArgs false
def aK.l0 : Nat → List (Int) → List (Int) → Int → Option (Bool)
 | 0, _, _, _ => none
 | k + 1, x0, x1, x5 => if x5 < (x0.length : Int) then (if 0 ≤ x5 then (if x5 < (x1.length : Int) then ((fX.f (jl x0 x5) (jl x1 x5)).bind fun IJ => (if IJ = true then (aK.l0 k x0 x1 (wrap64 (x5 + 1))) else (some false))) else (none)) else (none)) else (some true)
def aK.f (k : Nat) (l0 : List (Int)) (l1 : List (Int)) : Option (Bool) := if (l0.length : Int) = (l1.length : Int) then (aK.l0 k l0 l1 0) else (some false)
theorem aK.cF : ∀ k, (∀ y0 y1 y2, LeO (aK.l0 k y0 y1 y2) (aK.l0 (k + 1) y0 y1 y2))
 | 0 => fun _ _ _ r h => by simp [aK.l0] at h
 | k + 1 => by
  have ih0 := aK.cF k
  ·
   intro y0 y1 y2; unfold aK.l0
   repeat' first
   | (with_reducible exact ih0 _ _ _)
   | (with_reducible exact LeO.refl _)
   | (with_reducible exact LeO.none _)
   | (with_reducible refine LeO.ite ?_ ?_)
   | (with_reducible refine LeO.bind ?_ (fun _ => ?_))
theorem aK.mono : ∀ a0 a1 k, LeO (aK.f k a0 a1) (aK.f (k + 1) a0 a1) := by
 intro a0 a1 k; have ih0 := aK.cF k; unfold aK.f
 repeat' first
  | (with_reducible exact ih0 _ _ _)
  | (with_reducible exact LeO.refl _)
  | (with_reducible exact LeO.none _)
  | (with_reducible refine LeO.ite ?_ ?_)
  | (with_reducible refine LeO.bind ?_ (fun _ => ?_))
def aK.T6 : Bool × List (List Nat × List Nat) := (true, [([], []), ([], []), ([0, 1], [0, 1]), ([2], [2]), ([], []), ([], []), ([4, 5], [4, 5]), ([6], [6]), ([3, 7], [3, 7]), ([8], [8])])
def aK.B6 : List Nat := [0, 0, 3, 7, 0, 0, 48, 112, 255, 511]
theorem aK.BH : gU .any (opsOf Tryz.f26 6) = aK.T6 := by kernel_rfl
theorem aK.wO : iT aK.T6.2 aK.B6 = true := by kernel_rfl
set_option maxHeartbeats 8000000 in
set_option maxRecDepth 100000 in
theorem aK.calls (k : Nat) (A0 : Option Addr) (c0 : Nat) (l0 : List (Int)) (A1 : Option Addr) (c1 : Nat) (l1 : List (Int)) (r : Bool) (w : World) (hr0 : Kd.C Kd.flt w A0 l0.length l0) (hc0 : l0.length ≤ c0) (hr1 : Kd.C Kd.flt w A1 l1.length l1) (hc1 : l1.length ≤ c1) (h : aK.f k l0 l1 = some r) :
 Calls Tryz.prog 26 #[.slice A0 l0.length c0, .slice A1 l1.length c1] w fun e w' => e = .returned (.bool r) ∧ Below w.heap.size w w' := by
 have HR0 := Aside0.mk hr0; have HC0 := Aside0.mk hc0; clear hr0 hc0; have HR1 := Aside0.mk hr1; have HC1 := Aside0.mk hc1; clear hr1 hc1; have HB := Aside0.mk (Below.refl w.heap.size w); have H := h; unfold aK.f at H; clear h
 by_cases c3 : (l0.length : Int) = (l1.length : Int)
 ·
  rw [if_pos c3] at H; have gD : ((l0.length : Int) == (l1.length : Int)) = true := beq_iff_eq.mpr c3; have kT : ((l0.length : Int) != (l1.length : Int)) = false := bne_eq_false_iff_eq.mpr c3; have o5 : (l0.length == l1.length) = true := by first | simpa using c3 | (simp at c3 ⊢; omega)
  clear c3; have H' := Aside0.mk H; clear H; go_enter Tryz.func26, Tryz.ntmps26
  go_wp2
  go_loopg [5] k (fun kq v5 w' => ∃ (aT : Int), v5 = .int .i64 aT ∧ Aside0 (aK.l0 kq l0 l1 aT = some r) ∧ Aside0 (kq ≤ k) ∧ Aside0 (Below w.heap.size w w'))
  case atStart => exact ⟨(0), sz, H', ⟨Nat.le_refl _⟩, ⟨hz HB.out⟩⟩
  case round =>
   clear H'
   try clear c1
   try clear c2
   try clear p2
   try clear c3
   try clear gD
   try clear kT
   try clear o5
   obtain ⟨aT, rfl, HA, HK1, HB⟩ := hrel
   cases gk with
   | zero => exact absurd HA.out (by simp [aK.l0])
   | succ k1 =>
    have H := HA.out; clear HA; simp only [aK.l0] at H
    by_cases c4 : aT < (l0.length : Int)
    ·
     rw [if_pos c4] at H; have iC := decide_eq_true c4; clear c4; obtain ⟨c5, H⟩ := ifz H; have fk : decide (0 ≤ aT) = true := decide_eq_true c5; clear c5; obtain ⟨c6, H⟩ := ifz H; have oC : decide (aT < (l1.length : Int)) = true := decide_eq_true c6; clear c6; obtain ⟨IJ, A7, H⟩ := bnz H; (try dsimp only at H)
     by_cases c8 : IJ = true
     ·
      subst c8; rw [if_pos rfl] at H; have H' := Aside0.mk H; clear H
      try go_wp2
      replace HB := am (bw HB.out); have p405 : 0 ≤ (aT : Int) := of_decide_eq_true az; have q405 : aT < (l0.length : Int) := of_decide_eq_true az; obtain ⟨E5, rq, e405, l7, K8⟩ := ug HR0.out aT p405 q405; have ru := l7
      cases e405
      replace l7 := cz HB.out l7; replace p405 := eq_true p405; replace q405 := eq_true q405; have p406 : 0 ≤ (aT : Int) := of_decide_eq_true az; have q406 : aT < (l1.length : Int) := of_decide_eq_true az; obtain ⟨E6, ry, e406, l8, K9⟩ := ug HR1.out aT p406 q406; have rA := l8
      cases e406
      replace l8 := cz HB.out l8; replace p406 := eq_true p406; replace q406 := eq_true q406; refine iZ (n := 10) (S := fun w' => w'.cell? (E5.add (aT).toNat) = some (.float .f64 rq) ∧ w'.cell? (E6.add (aT).toNat) = some (.float .f64 ry)) (ds := []) (dn 10 0) (by kernel_rfl) rfl (by kernel_rfl) ⟨(cz HB.out ru), (cz HB.out rA)⟩ (fun hHeld => ?_); refine gR aK.BH aK.wO (fun HT_ HW_ => ?_); generalize wr.drew = w9 at HB l7 l8 hHeld ⊢; refine pz 0 17 (dn 10 1) rfl rfl HT_ ?_; refine pz 1 18 (dn 10 3) rfl rfl HT_ ?_; refine pz 2 19 (dn 10 7) rfl rfl HT_ ?_; refine pz 4 21 (dn 10 23) rfl rfl HT_ ?_; refine pz 5 22 (dn 10 55) rfl rfl HT_ ?_; refine pz 6 23 (dn 10 119) rfl rfl HT_ ?_; refine fY (i := 3) (N := some 20) (v := ?_) (a' := ?_) (dn 10 127) rfl rfl (dN HT_.out HW_.out (by kernel_rfl)) (fun _ _ _ h => h) (Or.inl ⟨by rfl, ?_⟩) hHeld ?_ ?_; rotate_left
      ·
       rintro w' ⟨s0, s1⟩
       go_simp
       with_reducible rfl
      rotate_left
      ·
       simp only [Act.put, List.setIfInBounds_toArray, List.set_cons_zero, List.set_cons_succ, bN, bR]
       rfl
      refine fY (i := 7) (N := some 24) (v := ?_) (a' := ?_) (dn 10 255) rfl rfl (dN HT_.out HW_.out (by kernel_rfl)) (fun _ _ _ h => h) (Or.inl ⟨by rfl, ?_⟩) hHeld ?_ ?_; rotate_left
      ·
       rintro w' ⟨s0, s1⟩
       go_simp
       with_reducible rfl
      rotate_left
      ·
       simp only [Act.put, List.setIfInBounds_toArray, List.set_cons_zero, List.set_cons_succ, bN, bR]
       rfl
      refine iB (i := 8) (N := some 25) (dn 10 511) rfl rfl (fP HT_.out (by kernel_rfl)) (by decide) (fun K hK => ?_); refine mS Tryz.func82 (by kernel_rfl) rfl #[.float .f64 rq, .float .f64 ry] (by rfl) rfl rfl mz ?_
      with_reducible refine (fX.calls _ (jl l0 aT) _ (jl l1 aT) true _ ?side1 ?side2 A7.out).mono ?_
      (case side1 => exact fz); (case side2 => exact fz); rintro e w10 ⟨rfl, hb⟩; refine ⟨_, rfl, ?_⟩; replace HB := sb HB hb; (try clear hb); (try clear hb2); (try clear hk); (try clear hi); refine hK.out _ _ ⟨(cz HB.out ru), (cz HB.out rA)⟩ (fun hHeld => ?_); clear hK K; refine dH (a' := ?_) ?_ ?_; rotate_left
      ·
       show Act.put _ (some 25) _ = _; simp only [Act.put, List.setIfInBounds_toArray, List.set_cons_zero, List.set_cons_succ, bN, bR]
       rfl
      refine pz 9 26 (dn 10 1023) rfl rfl HT_ ?_; refine jF (iS HT_.out (by kernel_rfl)) ?_
      try go_wp2
      go_roundg k1
      case measure => have := HK1.out; omega
      case rel => exact ⟨(wrap64 (aT + 1)), sz, H', ⟨by have := HK1.out; omega⟩, ⟨hz HB.out⟩⟩
     ·
      replace c8 := Bool.eq_false_iff.mpr c8; subst c8; rw [if_neg (show ¬ (false = true) by decide)] at H; obtain rfl := Option.some.inj H
      try go_wp2
      replace HB := am (bw HB.out); have p405 : 0 ≤ (aT : Int) := of_decide_eq_true az; have q405 : aT < (l0.length : Int) := of_decide_eq_true az; obtain ⟨E5, rq, e405, l7, K8⟩ := ug HR0.out aT p405 q405; have ru := l7
      cases e405
      replace l7 := cz HB.out l7; replace p405 := eq_true p405; replace q405 := eq_true q405; have p406 : 0 ≤ (aT : Int) := of_decide_eq_true az; have q406 : aT < (l1.length : Int) := of_decide_eq_true az; obtain ⟨E6, ry, e406, l8, K9⟩ := ug HR1.out aT p406 q406; have rA := l8
      cases e406
      replace l8 := cz HB.out l8; replace p406 := eq_true p406; replace q406 := eq_true q406; refine iZ (n := 10) (S := fun w' => w'.cell? (E5.add (aT).toNat) = some (.float .f64 rq) ∧ w'.cell? (E6.add (aT).toNat) = some (.float .f64 ry)) (ds := []) (dn 10 0) (by kernel_rfl) rfl (by kernel_rfl) ⟨(cz HB.out ru), (cz HB.out rA)⟩ (fun hHeld => ?_); refine gR aK.BH aK.wO (fun HT_ HW_ => ?_); generalize wr.drew = w11 at HB l7 l8 hHeld ⊢; refine pz 0 17 (dn 10 1) rfl rfl HT_ ?_; refine pz 1 18 (dn 10 3) rfl rfl HT_ ?_; refine pz 2 19 (dn 10 7) rfl rfl HT_ ?_; refine pz 4 21 (dn 10 23) rfl rfl HT_ ?_; refine pz 5 22 (dn 10 55) rfl rfl HT_ ?_; refine pz 6 23 (dn 10 119) rfl rfl HT_ ?_; refine fY (i := 3) (N := some 20) (v := ?_) (a' := ?_) (dn 10 127) rfl rfl (dN HT_.out HW_.out (by kernel_rfl)) (fun _ _ _ h => h) (Or.inl ⟨by rfl, ?_⟩) hHeld ?_ ?_; rotate_left
      ·
       rintro w' ⟨s0, s1⟩
       go_simp
       with_reducible rfl
      rotate_left
      ·
       simp only [Act.put, List.setIfInBounds_toArray, List.set_cons_zero, List.set_cons_succ, bN, bR]
       rfl
      refine fY (i := 7) (N := some 24) (v := ?_) (a' := ?_) (dn 10 255) rfl rfl (dN HT_.out HW_.out (by kernel_rfl)) (fun _ _ _ h => h) (Or.inl ⟨by rfl, ?_⟩) hHeld ?_ ?_; rotate_left
      ·
       rintro w' ⟨s0, s1⟩
       go_simp
       with_reducible rfl
      rotate_left
      ·
       simp only [Act.put, List.setIfInBounds_toArray, List.set_cons_zero, List.set_cons_succ, bN, bR]
       rfl
      refine iB (i := 8) (N := some 25) (dn 10 511) rfl rfl (fP HT_.out (by kernel_rfl)) (by decide) (fun K hK => ?_); refine mS Tryz.func82 (by kernel_rfl) rfl #[.float .f64 rq, .float .f64 ry] (by rfl) rfl rfl mz ?_
      with_reducible refine (fX.calls _ (jl l0 aT) _ (jl l1 aT) false _ ?side1 ?side2 A7.out).mono ?_
      (case side1 => exact fz); (case side2 => exact fz); rintro e w12 ⟨rfl, hb⟩; refine ⟨_, rfl, ?_⟩; replace HB := sb HB hb; (try clear hb); (try clear hb2); (try clear hk); (try clear hi); refine hK.out _ _ ⟨(cz HB.out ru), (cz HB.out rA)⟩ (fun hHeld => ?_); clear hK K; refine dH (a' := ?_) ?_ ?_; rotate_left
      ·
       show Act.put _ (some 25) _ = _; simp only [Act.put, List.setIfInBounds_toArray, List.set_cons_zero, List.set_cons_succ, bN, bR]
       rfl
      refine pz 9 26 (dn 10 1023) rfl rfl HT_ ?_; refine jF (iS HT_.out (by kernel_rfl)) ?_
      try go_wp2
      go_ret
      exact ⟨ez, hz HB.out⟩
    ·
     rw [if_neg c4] at H; have iC := decide_eq_false c4; clear c4; obtain rfl := Option.some.inj H
     go_wp2
     go_ret
     exact ⟨ez, hz HB.out⟩
 ·
  rw [if_neg c3] at H; have gD : ((l0.length : Int) == (l1.length : Int)) = false := beq_eq_false_iff_ne.mpr c3; have kT : ((l0.length : Int) != (l1.length : Int)) = true := bne_iff_ne.mpr c3; have o5 : (l0.length == l1.length) = false := by first | simpa using c3 | (simp at c3 ⊢; omega)
  obtain rfl := Option.some.inj H; go_enter Tryz.func26, Tryz.ntmps26
  go_wp2
  go_ret
  exact ⟨ez, hz HB.out⟩
end Go.Proofs.YtfgnjndfnijjoaaGreat.Print
end
section
namespace Go.Proofs.YtfgnjndfnijjoaaGreat.Print
open Go.RowKit Go.Proofs.YtfgnjndfnijjoaaGreatW.PrintWords Go.Proofs.YtfgnjndfnijjoaaGreatW.PrintLast Go.Proofs.YtfgnjndfnijjoaaGreatW.PrintMore
attribute [local go_sem] dJ dK eF eG cZ dc dL dM
attribute [local go_sem] bH
set_option linter.unusedVariables false
set_option linter.unusedSimpArgs false
def cj.f (k : Nat)  : Option (Bool) := (some (([(⟨(⟨5, 2⟩ : S48), 0, 3, (⟨#[97]⟩ : ByteArray), (0 : Int)⟩ : S51), (⟨(⟨7, 2⟩ : S48), 3, 4, (⟨#[97]⟩ : ByteArray), (9221120237041090560 : Int)⟩ : S51)] : List (S51)) : List (S51))).bind fun bk => ((aN.f k bk).bind fun dY => (if (dY.1.length : Int) = 5 then ((dG.f k dY.1).bind fun pS => (if 4 ≤ (dY.1.length : Int) then ((dG.f k (dY.1.take 4)).bind fun sI => (if 1 < (bk.length : Int) then (if 0 < (bk.length : Int) then ((aN.f k (([(⟨(⟨(aa bk 1).f0.f0, (aa bk 1).f0.f1⟩ : S48), (aa bk 1).f1, (aa bk 1).f2, (aa bk 1).f3, (aa bk 1).f4⟩ : S51), (⟨(⟨(aa bk 0).f0.f0, (aa bk 0).f0.f1⟩ : S48), (aa bk 0).f1, (aa bk 0).f2, (aa bk 0).f3, (aa bk 0).f4⟩ : S51)] : List (S51)))).bind fun oT => ((dg.f (⟨#[2, 97, 98, 99]⟩ : ByteArray)).bind fun jq => ((dg.f (⟨#[5, 97, 98, 99]⟩ : ByteArray)).bind fun oU => ((bg.f k (([(0 : Int), (4607182418800017408 : Int), (9221120237041090560 : Int)] : List (Int)))).bind fun mH => ((bI.f k mH 3).bind fun jO => ((bI.f k (⟨#[2, 0, 1, 0]⟩ : ByteArray) 1).bind fun nj => (if dY.2 = 0 then (if 0 < (dY.1.length : Int) then (if ((cE dY.1 0).f0) = 4 then (if ((cE dY.1 0).f1).toList = ([2] : List UInt8) then (if 1 < (dY.1.length : Int) then (if ((cE dY.1 1).f1).toList = ([2, 10, 4, 2, 2] : List UInt8) then (if 2 < (dY.1.length : Int) then (if ((cE dY.1 2).f1).toList = ([2, 0, 6, 6, 2] : List UInt8) then (if 3 < (dY.1.length : Int) then (if ((cE dY.1 3).f1).toList = ([1, 1, 97, 0, 2] : List UInt8) then (if 4 < (dY.1.length : Int) then (if ((cE dY.1 4).f1).toList = ([2, 1, 1, 255, 240, 3] : List UInt8) then (if pS.2 = 0 then ((aW.f k pS.1 bk).bind fun nL => (if nL = true then (if sI.2 = 5 then (if oT.2 = 1 then (if jq.1.toList = ([97, 98] : List UInt8) then (if jq.2.1.toList = ([99] : List UInt8) then (if jq.2.2 = 0 then (if oU.2.2 = 2 then ((dm.f k (⟨#[97, 98]⟩ : ByteArray)).bind fun mI => (if mI.toList = ([2, 97, 98] : List UInt8) then (if jO.2 = 0 then ((aK.f k jO.1 (([(0 : Int), (4607182418800017408 : Int), (9221120237041090560 : Int)] : List (Int)))).bind fun mJ => (if mJ = true then (some (nj.2 == 5)) else (none))) else (none)) else (none))) else (none)) else (none)) else (none)) else (none)) else (none)) else (none)) else (none))) else (none)) else (none)) else (none)) else (none)) else (none)) else (none)) else (none)) else (none)) else (none)) else (none)) else (none)) else (none)) else (none)))))))) else (none)) else (none))) else (none))) else (none)))
theorem cj.mono : ∀ k, LeO (cj.f k ) (cj.f (k + 1) ) := by
 intro  k; unfold cj.f
 repeat' first
  | (with_reducible exact aK.mono _ _ _)
  | (with_reducible exact aW.mono _ _ _)
  | (with_reducible exact dG.mono _ _)
  | (with_reducible exact aN.mono _ _)
  | (with_reducible exact dm.mono _ _)
  | (with_reducible exact bg.mono _ _)
  | (with_reducible exact bI.mono _ _ _)
  | (with_reducible exact LeO.refl _)
  | (with_reducible exact LeO.none _)
  | (with_reducible refine LeO.ite ?_ ?_)
  | (with_reducible refine LeO.bind ?_ (fun _ => ?_))
def cj.T9 : Bool × List (List Nat × List Nat) := (true, [([], []), ([0], [0]), ([1], [1]), ([], []), ([3], [3]), ([4], [4]), ([2, 5], [2, 5]), ([6], [6]), ([7], [7]), ([8], [8]), ([8], [8]), ([9, 7, 0, 1, 2, 3, 4, 5, 6, 7, 8, 9], [9]), ([10, 11, 0, 1, 2, 3, 4, 5, 6, 7, 8, 9, 10, 11], [10])])
def cj.B9 : List Nat := [0, 1, 3, 0, 8, 24, 63, 127, 255, 511, 511, 1023, 4095]
theorem cj.Rh : gU .any (opsOf Tryz.f10 9) = cj.T9 := by kernel_rfl
theorem cj.Pz : iT cj.T9.2 cj.B9 = true := by kernel_rfl
set_option maxHeartbeats 8000000 in
set_option maxRecDepth 100000 in
theorem cj.calls (k : Nat)  (r : Bool) (w : World) (h : cj.f k  = some r) :
 Calls Tryz.prog 10 #[] w fun e w' => e = .returned (.bool r) ∧ Below w.heap.size w w' := by
 have hu48 := Tryz.underlying48; have hu51 := Tryz.underlying51; have HB := Aside0.mk (Below.refl w.heap.size w); have H : ((some (([(⟨(⟨5, 2⟩ : S48), 0, 3, (⟨#[97]⟩ : ByteArray), (0 : Int)⟩ : S51), (⟨(⟨7, 2⟩ : S48), 3, 4, (⟨#[97]⟩ : ByteArray), (9221120237041090560 : Int)⟩ : S51)] : List (S51)) : List (S51))).bind fun bk => ((aN.f k bk).bind fun dY => (if (dY.1.length : Int) = 5 then ((dG.f k dY.1).bind fun pS => (if 4 ≤ (dY.1.length : Int) then ((dG.f k (dY.1.take 4)).bind fun sI => (if 1 < (bk.length : Int) then (if 0 < (bk.length : Int) then ((aN.f k (([(⟨(⟨(aa bk 1).f0.f0, (aa bk 1).f0.f1⟩ : S48), (aa bk 1).f1, (aa bk 1).f2, (aa bk 1).f3, (aa bk 1).f4⟩ : S51), (⟨(⟨(aa bk 0).f0.f0, (aa bk 0).f0.f1⟩ : S48), (aa bk 0).f1, (aa bk 0).f2, (aa bk 0).f3, (aa bk 0).f4⟩ : S51)] : List (S51)))).bind fun oT => ((dg.f (⟨#[2, 97, 98, 99]⟩ : ByteArray)).bind fun jq => ((dg.f (⟨#[5, 97, 98, 99]⟩ : ByteArray)).bind fun oU => ((bg.f k (([(0 : Int), (4607182418800017408 : Int), (9221120237041090560 : Int)] : List (Int)))).bind fun mH => ((bI.f k mH 3).bind fun jO => ((bI.f k (⟨#[2, 0, 1, 0]⟩ : ByteArray) 1).bind fun nj => (if dY.2 = 0 then (if 0 < (dY.1.length : Int) then (if ((cE dY.1 0).f0) = 4 then (if ((cE dY.1 0).f1).toList = ([2] : List UInt8) then (if 1 < (dY.1.length : Int) then (if ((cE dY.1 1).f1).toList = ([2, 10, 4, 2, 2] : List UInt8) then (if 2 < (dY.1.length : Int) then (if ((cE dY.1 2).f1).toList = ([2, 0, 6, 6, 2] : List UInt8) then (if 3 < (dY.1.length : Int) then (if ((cE dY.1 3).f1).toList = ([1, 1, 97, 0, 2] : List UInt8) then (if 4 < (dY.1.length : Int) then (if ((cE dY.1 4).f1).toList = ([2, 1, 1, 255, 240, 3] : List UInt8) then (if pS.2 = 0 then ((aW.f k pS.1 bk).bind fun nL => (if nL = true then (if sI.2 = 5 then (if oT.2 = 1 then (if jq.1.toList = ([97, 98] : List UInt8) then (if jq.2.1.toList = ([99] : List UInt8) then (if jq.2.2 = 0 then (if oU.2.2 = 2 then ((dm.f k (⟨#[97, 98]⟩ : ByteArray)).bind fun mI => (if mI.toList = ([2, 97, 98] : List UInt8) then (if jO.2 = 0 then ((aK.f k jO.1 (([(0 : Int), (4607182418800017408 : Int), (9221120237041090560 : Int)] : List (Int)))).bind fun mJ => (if mJ = true then (some (nj.2 == 5)) else (none))) else (none)) else (none))) else (none)) else (none)) else (none)) else (none)) else (none)) else (none)) else (none))) else (none)) else (none)) else (none)) else (none)) else (none)) else (none)) else (none)) else (none)) else (none)) else (none)) else (none)) else (none)) else (none)))))))) else (none)) else (none))) else (none))) else (none)))) = some r := h; clear h; obtain ⟨bk, wP⟩ : ∃ y_ : List (S51), y_ = (([(⟨(⟨5, 2⟩ : S48), 0, 3, (⟨#[97]⟩ : ByteArray), (0 : Int)⟩ : S51), (⟨(⟨7, 2⟩ : S48), 3, 4, (⟨#[97]⟩ : ByteArray), (9221120237041090560 : Int)⟩ : S51)] : List (S51))) := ⟨_, rfl⟩; replace H : ((aN.f k bk).bind fun dY => (if (dY.1.length : Int) = 5 then ((dG.f k dY.1).bind fun pS => (if 4 ≤ (dY.1.length : Int) then ((dG.f k (dY.1.take 4)).bind fun sI => (if 1 < (bk.length : Int) then (if 0 < (bk.length : Int) then ((aN.f k (([(⟨(⟨(aa bk 1).f0.f0, (aa bk 1).f0.f1⟩ : S48), (aa bk 1).f1, (aa bk 1).f2, (aa bk 1).f3, (aa bk 1).f4⟩ : S51), (⟨(⟨(aa bk 0).f0.f0, (aa bk 0).f0.f1⟩ : S48), (aa bk 0).f1, (aa bk 0).f2, (aa bk 0).f3, (aa bk 0).f4⟩ : S51)] : List (S51)))).bind fun oT => ((dg.f (⟨#[2, 97, 98, 99]⟩ : ByteArray)).bind fun jq => ((dg.f (⟨#[5, 97, 98, 99]⟩ : ByteArray)).bind fun oU => ((bg.f k (([(0 : Int), (4607182418800017408 : Int), (9221120237041090560 : Int)] : List (Int)))).bind fun mH => ((bI.f k mH 3).bind fun jO => ((bI.f k (⟨#[2, 0, 1, 0]⟩ : ByteArray) 1).bind fun nj => (if dY.2 = 0 then (if 0 < (dY.1.length : Int) then (if ((cE dY.1 0).f0) = 4 then (if ((cE dY.1 0).f1).toList = ([2] : List UInt8) then (if 1 < (dY.1.length : Int) then (if ((cE dY.1 1).f1).toList = ([2, 10, 4, 2, 2] : List UInt8) then (if 2 < (dY.1.length : Int) then (if ((cE dY.1 2).f1).toList = ([2, 0, 6, 6, 2] : List UInt8) then (if 3 < (dY.1.length : Int) then (if ((cE dY.1 3).f1).toList = ([1, 1, 97, 0, 2] : List UInt8) then (if 4 < (dY.1.length : Int) then (if ((cE dY.1 4).f1).toList = ([2, 1, 1, 255, 240, 3] : List UInt8) then (if pS.2 = 0 then ((aW.f k pS.1 bk).bind fun nL => (if nL = true then (if sI.2 = 5 then (if oT.2 = 1 then (if jq.1.toList = ([97, 98] : List UInt8) then (if jq.2.1.toList = ([99] : List UInt8) then (if jq.2.2 = 0 then (if oU.2.2 = 2 then ((dm.f k (⟨#[97, 98]⟩ : ByteArray)).bind fun mI => (if mI.toList = ([2, 97, 98] : List UInt8) then (if jO.2 = 0 then ((aK.f k jO.1 (([(0 : Int), (4607182418800017408 : Int), (9221120237041090560 : Int)] : List (Int)))).bind fun mJ => (if mJ = true then (some (nj.2 == 5)) else (none))) else (none)) else (none))) else (none)) else (none)) else (none)) else (none)) else (none)) else (none)) else (none))) else (none)) else (none)) else (none)) else (none)) else (none)) else (none)) else (none)) else (none)) else (none)) else (none)) else (none)) else (none)) else (none)))))))) else (none)) else (none))) else (none))) else (none))) = some r := by first | (rw [wP]; with_reducible exact H) | (have H2_ := (Option.bind_some _ _).symm.trans H; rw [wP]; with_reducible exact H2_) | (have H2_ := (Option.bind_some _ _).symm.trans H; with_reducible exact H2_) | with_reducible exact H | (rw [wP]; exact H) | exact H
 have JG := Aside0.mk wP; clear wP; obtain ⟨⟨cT, yx⟩, A1, H⟩ := bnz H; (try dsimp only at H); obtain ⟨c2, H⟩ := ifz H; have jB : ((cT.length : Int) == 5) = true := beq_iff_eq.mpr c2; have DL : ((cT.length : Int) != 5) = false := bne_eq_false_iff_eq.mpr c2; clear c2; obtain ⟨⟨BI, yz⟩, A3, H⟩ := bnz H; (try dsimp only at H); obtain ⟨c4, H⟩ := ifz H; have iC := eq_true c4; have MU : decide (4 ≤ (cT.length : Int)) = true := decide_eq_true c4; clear c4; obtain ⟨BJ, wQ⟩ : ∃ y_ : List (S53), y_ = (cT.take 4) := ⟨_, rfl⟩; replace H : ((dG.f k BJ).bind fun sI => (if 1 < (bk.length : Int) then (if 0 < (bk.length : Int) then ((aN.f k (([(⟨(⟨(aa bk 1).f0.f0, (aa bk 1).f0.f1⟩ : S48), (aa bk 1).f1, (aa bk 1).f2, (aa bk 1).f3, (aa bk 1).f4⟩ : S51), (⟨(⟨(aa bk 0).f0.f0, (aa bk 0).f0.f1⟩ : S48), (aa bk 0).f1, (aa bk 0).f2, (aa bk 0).f3, (aa bk 0).f4⟩ : S51)] : List (S51)))).bind fun oT => ((dg.f (⟨#[2, 97, 98, 99]⟩ : ByteArray)).bind fun jq => ((dg.f (⟨#[5, 97, 98, 99]⟩ : ByteArray)).bind fun oU => ((bg.f k (([(0 : Int), (4607182418800017408 : Int), (9221120237041090560 : Int)] : List (Int)))).bind fun mH => ((bI.f k mH 3).bind fun jO => ((bI.f k (⟨#[2, 0, 1, 0]⟩ : ByteArray) 1).bind fun nj => (if yx = 0 then (if 0 < (cT.length : Int) then (if ((cE cT 0).f0) = 4 then (if ((cE cT 0).f1).toList = ([2] : List UInt8) then (if 1 < (cT.length : Int) then (if ((cE cT 1).f1).toList = ([2, 10, 4, 2, 2] : List UInt8) then (if 2 < (cT.length : Int) then (if ((cE cT 2).f1).toList = ([2, 0, 6, 6, 2] : List UInt8) then (if 3 < (cT.length : Int) then (if ((cE cT 3).f1).toList = ([1, 1, 97, 0, 2] : List UInt8) then (if 4 < (cT.length : Int) then (if ((cE cT 4).f1).toList = ([2, 1, 1, 255, 240, 3] : List UInt8) then (if yz = 0 then ((aW.f k BI bk).bind fun nL => (if nL = true then (if sI.2 = 5 then (if oT.2 = 1 then (if jq.1.toList = ([97, 98] : List UInt8) then (if jq.2.1.toList = ([99] : List UInt8) then (if jq.2.2 = 0 then (if oU.2.2 = 2 then ((dm.f k (⟨#[97, 98]⟩ : ByteArray)).bind fun mI => (if mI.toList = ([2, 97, 98] : List UInt8) then (if jO.2 = 0 then ((aK.f k jO.1 (([(0 : Int), (4607182418800017408 : Int), (9221120237041090560 : Int)] : List (Int)))).bind fun mJ => (if mJ = true then (some (nj.2 == 5)) else (none))) else (none)) else (none))) else (none)) else (none)) else (none)) else (none)) else (none)) else (none)) else (none))) else (none)) else (none)) else (none)) else (none)) else (none)) else (none)) else (none)) else (none)) else (none)) else (none)) else (none)) else (none)) else (none)))))))) else (none)) else (none))) = some r := by first | (rw [wQ]; with_reducible exact H) | (have H2_ := (Option.bind_some _ _).symm.trans H; rw [wQ]; with_reducible exact H2_) | (have H2_ := (Option.bind_some _ _).symm.trans H; with_reducible exact H2_) | with_reducible exact H | (rw [wQ]; exact H) | exact H
 have JH := Aside0.mk wQ; clear wQ; obtain ⟨⟨Ri, BL⟩, A5, H⟩ := bnz H; (try dsimp only at H); obtain ⟨c6, H⟩ := ifz H; have oC : decide (1 < (bk.length : Int)) = true := decide_eq_true c6; have xJ : decide (1 < bk.length) = true := decide_eq_true (by omega); clear c6; obtain ⟨c7, H⟩ := ifz H; have o6 : decide (0 < (bk.length : Int)) = true := decide_eq_true c7; have DT : decide (0 < bk.length) = true := decide_eq_true (by omega); clear c7; obtain ⟨IK, wR⟩ : ∃ y_ : List (S51), y_ = (([(⟨(⟨(aa bk 1).f0.f0, (aa bk 1).f0.f1⟩ : S48), (aa bk 1).f1, (aa bk 1).f2, (aa bk 1).f3, (aa bk 1).f4⟩ : S51), (⟨(⟨(aa bk 0).f0.f0, (aa bk 0).f0.f1⟩ : S48), (aa bk 0).f1, (aa bk 0).f2, (aa bk 0).f3, (aa bk 0).f4⟩ : S51)] : List (S51))) := ⟨_, rfl⟩; replace H : ((aN.f k IK).bind fun oT => ((dg.f (⟨#[2, 97, 98, 99]⟩ : ByteArray)).bind fun jq => ((dg.f (⟨#[5, 97, 98, 99]⟩ : ByteArray)).bind fun oU => ((bg.f k (([(0 : Int), (4607182418800017408 : Int), (9221120237041090560 : Int)] : List (Int)))).bind fun mH => ((bI.f k mH 3).bind fun jO => ((bI.f k (⟨#[2, 0, 1, 0]⟩ : ByteArray) 1).bind fun nj => (if yx = 0 then (if 0 < (cT.length : Int) then (if ((cE cT 0).f0) = 4 then (if ((cE cT 0).f1).toList = ([2] : List UInt8) then (if 1 < (cT.length : Int) then (if ((cE cT 1).f1).toList = ([2, 10, 4, 2, 2] : List UInt8) then (if 2 < (cT.length : Int) then (if ((cE cT 2).f1).toList = ([2, 0, 6, 6, 2] : List UInt8) then (if 3 < (cT.length : Int) then (if ((cE cT 3).f1).toList = ([1, 1, 97, 0, 2] : List UInt8) then (if 4 < (cT.length : Int) then (if ((cE cT 4).f1).toList = ([2, 1, 1, 255, 240, 3] : List UInt8) then (if yz = 0 then ((aW.f k BI bk).bind fun nL => (if nL = true then (if BL = 5 then (if oT.2 = 1 then (if jq.1.toList = ([97, 98] : List UInt8) then (if jq.2.1.toList = ([99] : List UInt8) then (if jq.2.2 = 0 then (if oU.2.2 = 2 then ((dm.f k (⟨#[97, 98]⟩ : ByteArray)).bind fun mI => (if mI.toList = ([2, 97, 98] : List UInt8) then (if jO.2 = 0 then ((aK.f k jO.1 (([(0 : Int), (4607182418800017408 : Int), (9221120237041090560 : Int)] : List (Int)))).bind fun mJ => (if mJ = true then (some (nj.2 == 5)) else (none))) else (none)) else (none))) else (none)) else (none)) else (none)) else (none)) else (none)) else (none)) else (none))) else (none)) else (none)) else (none)) else (none)) else (none)) else (none)) else (none)) else (none)) else (none)) else (none)) else (none)) else (none)) else (none)))))))) = some r := by first | (rw [wR]; with_reducible exact H) | (have H2_ := (Option.bind_some _ _).symm.trans H; rw [wR]; with_reducible exact H2_) | (have H2_ := (Option.bind_some _ _).symm.trans H; with_reducible exact H2_) | with_reducible exact H | (rw [wR]; exact H) | exact H
 have JI := Aside0.mk wR; clear wR; obtain ⟨⟨Rj, E7⟩, A8, H⟩ := bnz H; (try dsimp only at H); obtain ⟨⟨E8, E9, Fa⟩, A9, H⟩ := bnz H; (try dsimp only at H); obtain ⟨⟨Rk, Rl, Fb⟩, A10, H⟩ := bnz H; (try dsimp only at H); obtain ⟨IL, wS⟩ : ∃ y_ : List (Int), y_ = (([(0 : Int), (4607182418800017408 : Int), (9221120237041090560 : Int)] : List (Int))) := ⟨_, rfl⟩; replace H : ((bg.f k IL).bind fun mH => ((bI.f k mH 3).bind fun jO => ((bI.f k (⟨#[2, 0, 1, 0]⟩ : ByteArray) 1).bind fun nj => (if yx = 0 then (if 0 < (cT.length : Int) then (if ((cE cT 0).f0) = 4 then (if ((cE cT 0).f1).toList = ([2] : List UInt8) then (if 1 < (cT.length : Int) then (if ((cE cT 1).f1).toList = ([2, 10, 4, 2, 2] : List UInt8) then (if 2 < (cT.length : Int) then (if ((cE cT 2).f1).toList = ([2, 0, 6, 6, 2] : List UInt8) then (if 3 < (cT.length : Int) then (if ((cE cT 3).f1).toList = ([1, 1, 97, 0, 2] : List UInt8) then (if 4 < (cT.length : Int) then (if ((cE cT 4).f1).toList = ([2, 1, 1, 255, 240, 3] : List UInt8) then (if yz = 0 then ((aW.f k BI bk).bind fun nL => (if nL = true then (if BL = 5 then (if E7 = 1 then (if E8.toList = ([97, 98] : List UInt8) then (if E9.toList = ([99] : List UInt8) then (if Fa = 0 then (if Fb = 2 then ((dm.f k (⟨#[97, 98]⟩ : ByteArray)).bind fun mI => (if mI.toList = ([2, 97, 98] : List UInt8) then (if jO.2 = 0 then ((aK.f k jO.1 (([(0 : Int), (4607182418800017408 : Int), (9221120237041090560 : Int)] : List (Int)))).bind fun mJ => (if mJ = true then (some (nj.2 == 5)) else (none))) else (none)) else (none))) else (none)) else (none)) else (none)) else (none)) else (none)) else (none)) else (none))) else (none)) else (none)) else (none)) else (none)) else (none)) else (none)) else (none)) else (none)) else (none)) else (none)) else (none)) else (none)) else (none))))) = some r := by first | (rw [wS]; with_reducible exact H) | (have H2_ := (Option.bind_some _ _).symm.trans H; rw [wS]; with_reducible exact H2_) | (have H2_ := (Option.bind_some _ _).symm.trans H; with_reducible exact H2_) | with_reducible exact H | (rw [wS]; exact H) | exact H
 have JJ := Aside0.mk wS; clear wS; obtain ⟨mH, A11, H⟩ := bnz H; (try dsimp only at H); obtain ⟨⟨IM, IP⟩, A12, H⟩ := bnz H; (try dsimp only at H); obtain ⟨⟨Rm, MY⟩, A13, H⟩ := bnz H; (try dsimp only at H); obtain ⟨c14, H⟩ := ifz H; have pT : (yx == 0) = true := beq_iff_eq.mpr c14; have Ag : (yx != 0) = false := bne_eq_false_iff_eq.mpr c14; clear c14; obtain ⟨c15, H⟩ := ifz H; have OM : decide (0 < (cT.length : Int)) = true := decide_eq_true c15; have OO : decide (0 < cT.length) = true := decide_eq_true (by omega); clear c15; obtain ⟨c16, H⟩ := ifz H; have Ey : (((cE cT 0).f0) == 4) = true := beq_iff_eq.mpr c16; have Ez : (((cE cT 0).f0) != 4) = false := bne_eq_false_iff_eq.mpr c16; clear c16; obtain ⟨c17, H⟩ := ifz H; have oM : (((cE cT 0).f1).toList == ([2] : List UInt8)) = true := beq_iff_eq.mpr c17; have Js : (((cE cT 0).f1).toList != ([2] : List UInt8)) = false := bne_eq_false_iff_eq.mpr c17; clear c17; obtain ⟨c18, H⟩ := ifz H; have Uy : decide (1 < (cT.length : Int)) = true := decide_eq_true c18; have Uz : decide (1 < cT.length) = true := decide_eq_true (by omega); clear c18; obtain ⟨c19, H⟩ := ifz H; have zU : (((cE cT 1).f1).toList == ([2, 10, 4, 2, 2] : List UInt8)) = true := beq_iff_eq.mpr c19; have UA : (((cE cT 1).f1).toList != ([2, 10, 4, 2, 2] : List UInt8)) = false := bne_eq_false_iff_eq.mpr c19; clear c19; obtain ⟨c20, H⟩ := ifz H; have oP : decide (2 < (cT.length : Int)) = true := decide_eq_true c20; have Fc : decide (2 < cT.length) = true := decide_eq_true (by omega); clear c20; obtain ⟨c21, H⟩ := ifz H; have JB : (((cE cT 2).f1).toList == ([2, 0, 6, 6, 2] : List UInt8)) = true := beq_iff_eq.mpr c21; have JC : (((cE cT 2).f1).toList != ([2, 0, 6, 6, 2] : List UInt8)) = false := bne_eq_false_iff_eq.mpr c21; clear c21; obtain ⟨c22, H⟩ := ifz H; have JK : decide (3 < (cT.length : Int)) = true := decide_eq_true c22; have JL : decide (3 < cT.length) = true := decide_eq_true (by omega); clear c22; obtain ⟨c23, H⟩ := ifz H; have UB : (((cE cT 3).f1).toList == ([1, 1, 97, 0, 2] : List UInt8)) = true := beq_iff_eq.mpr c23; have UC : (((cE cT 3).f1).toList != ([1, 1, 97, 0, 2] : List UInt8)) = false := bne_eq_false_iff_eq.mpr c23; clear c23; obtain ⟨c24, H⟩ := ifz H; have UD : decide (4 < (cT.length : Int)) = true := decide_eq_true c24; have UE : decide (4 < cT.length) = true := decide_eq_true (by omega); clear c24; obtain ⟨c25, H⟩ := ifz H; have uk : (((cE cT 4).f1).toList == ([2, 1, 1, 255, 240, 3] : List UInt8)) = true := beq_iff_eq.mpr c25; have DR : (((cE cT 4).f1).toList != ([2, 1, 1, 255, 240, 3] : List UInt8)) = false := bne_eq_false_iff_eq.mpr c25; clear c25; obtain ⟨c26, H⟩ := ifz H; have JD : (yz == 0) = true := beq_iff_eq.mpr c26; have JE : (yz != 0) = false := bne_eq_false_iff_eq.mpr c26; clear c26; obtain ⟨nL, A27, H⟩ := bnz H; (try dsimp only at H)
 by_cases c28 : nL = true
 ·
  subst c28; rw [if_pos rfl] at H; obtain ⟨c29, H⟩ := ifz H; have zV : (BL == 5) = true := beq_iff_eq.mpr c29; have zW : (BL != 5) = false := bne_eq_false_iff_eq.mpr c29; clear c29; obtain ⟨c30, H⟩ := ifz H; have UF : (E7 == 1) = true := beq_iff_eq.mpr c30; have UG : (E7 != 1) = false := bne_eq_false_iff_eq.mpr c30; clear c30; obtain ⟨c31, H⟩ := ifz H; have UH : (E8.toList == ([97, 98] : List UInt8)) = true := beq_iff_eq.mpr c31; have UI : (E8.toList != ([97, 98] : List UInt8)) = false := bne_eq_false_iff_eq.mpr c31; clear c31; obtain ⟨c32, H⟩ := ifz H; have UJ : (E9.toList == ([99] : List UInt8)) = true := beq_iff_eq.mpr c32; have UK : (E9.toList != ([99] : List UInt8)) = false := bne_eq_false_iff_eq.mpr c32; clear c32; obtain ⟨c33, H⟩ := ifz H; have UL : (Fa == 0) = true := beq_iff_eq.mpr c33; have UM : (Fa != 0) = false := bne_eq_false_iff_eq.mpr c33; clear c33; obtain ⟨c34, H⟩ := ifz H; have PA : (Fb == 2) = true := beq_iff_eq.mpr c34; have PB : (Fb != 2) = false := bne_eq_false_iff_eq.mpr c34; clear c34; obtain ⟨mI, A35, H⟩ := bnz H; (try dsimp only at H); obtain ⟨c36, H⟩ := ifz H; have UN : (mI.toList == ([2, 97, 98] : List UInt8)) = true := beq_iff_eq.mpr c36; have UO : (mI.toList != ([2, 97, 98] : List UInt8)) = false := bne_eq_false_iff_eq.mpr c36; clear c36; obtain ⟨c37, H⟩ := ifz H; have UQ : (IP == 0) = true := beq_iff_eq.mpr c37; have UR : (IP != 0) = false := bne_eq_false_iff_eq.mpr c37; clear c37; obtain ⟨MZ, wT⟩ : ∃ y_ : List (Int), y_ = (([(0 : Int), (4607182418800017408 : Int), (9221120237041090560 : Int)] : List (Int))) := ⟨_, rfl⟩; replace H : ((aK.f k IM MZ).bind fun mJ => (if mJ = true then (some (MY == 5)) else (none))) = some r := by first | (rw [wT]; with_reducible exact H) | (have H2_ := (Option.bind_some _ _).symm.trans H; rw [wT]; with_reducible exact H2_) | (have H2_ := (Option.bind_some _ _).symm.trans H; with_reducible exact H2_) | with_reducible exact H | (rw [wT]; exact H) | exact H
  have JM := Aside0.mk wT; clear wT; obtain ⟨mJ, A38, H⟩ := bnz H; (try dsimp only at H)
  by_cases c39 : mJ = true
  ·
   subst c39; rw [if_pos rfl] at H; obtain rfl := Option.some.inj H; go_enter Tryz.func10, Tryz.ntmps10; have bqn0 := AH w; have hrun0 : ∀ t, (binOp .quo t (.float .f64 0) (.float .f64 0)).run Tryz.prog w = .ok (.float .f64 (rX w)) w.drew := fun t => xF _ t w
   generalize rX w = nb0 at bqn0 hrun0
   try go_wp2_with (first | ((with_reducible refine bG (N := 29) rfl ?_); (try (refine iq (by rfl) ?_; dsimp only)); refine Kd.rW k51 _ 51 ?hg (N := 29) ?hd (xs := ([(⟨(⟨5, 2⟩ : S48), 0, 3, (⟨#[97]⟩ : ByteArray), (0 : Int)⟩ : S51), (⟨(⟨7, 2⟩ : S48), 3, 4, (⟨#[97]⟩ : ByteArray), (9221120237041090560 : Int)⟩ : S51)] : List (S51))) (inner := [.int .i64 5, .int .i64 2, .int .i64 0, .int .i64 3, .string (⟨#[97]⟩ : ByteArray), .float .f64 0, .int .i64 7, .int .i64 2, .int .i64 3, .int .i64 4, .string (⟨#[97]⟩ : ByteArray), .float .f64 nb0]) (ok := fun _ => True) (okp := fun _ => True) ?hr ?hp (fun _ hk => hk) trivial (Below.refl _ _) (Nat.le_refl _) (by simp) ?_; (case hd => rfl); (case hg => rfl); (case hr => first | (go_simp; done) | (go_simp; rfl)); (case hp => exact (bK.c6 (show Kd.M k51 _ _ _ (⟨(⟨5, 2⟩ : S48), 0, 3, (⟨#[97]⟩ : ByteArray), (0 : Int)⟩ : S51) [.int .i64 5, .int .i64 2, .int .i64 0, .int .i64 3, .string (⟨#[97]⟩ : ByteArray), .float .f64 0] from (qp _ _ _ (⟨(⟨5, 2⟩ : S48), 0, 3, (⟨#[97]⟩ : ByteArray), (0 : Int)⟩ : S51)  fz)) (bK.c6 (show Kd.M k51 _ _ _ (⟨(⟨7, 2⟩ : S48), 3, 4, (⟨#[97]⟩ : ByteArray), (9221120237041090560 : Int)⟩ : S51) [.int .i64 7, .int .i64 2, .int .i64 3, .int .i64 4, .string (⟨#[97]⟩ : ByteArray), .float .f64 nb0] from (qp _ _ _ (⟨(⟨7, 2⟩ : S48), 3, 4, (⟨#[97]⟩ : ByteArray), (9221120237041090560 : Int)⟩ : S51)  fz)) (bK.none _ _)))); intro v409 w40 BM hb hg_ hnew_; clear hg_ hnew_; (first | rw [← JG.out] at BM | (simp only [Int.reduceToNat, Int.toNat_natCast] at BM; rw [← JG.out] at BM)); have eT := am (Kd.cV BM (ai (hz HB.out))); replace HB := sb HB hb; clear hb BM; obtain ⟨vw, vz, Hl⟩ := Kd.bu eT.out; subst Hl) | ((with_reducible refine ak (f := 11) rfl ?_); refine aD (some 32) rfl rfl Tryz.func11 (by kernel_rfl) rfl #[.slice vw bk.length vz] rfl mz ?_; (with_reducible refine (aN.calls k _ _ bk cT yx _ ?side1 ?side2 A1.out).mono ?_); (case side1 => repeat (first | exact (Kd.av eT.out).2.2 | (with_reducible refine Kd.bO ?_ _) | (with_reducible refine Kd.bQ ?_ _) | (with_reducible refine Kd.bZ ?_))); (case side2 => exact (Kd.av eT.out).2.1); rintro e w43 ⟨v413, rfl, ho0, hb⟩; refine ⟨_, rfl, ?_⟩; replace eT := rb eT hb; have eU := am (Kd.cV ho0 (ai (hz HB.out))); replace HB := sb HB hb; (try clear hb); (try clear hb2); (try clear hk); (try clear hi); (try clear ho0); obtain ⟨Fe, BN, Rn⟩ := Kd.bu eU.out; subst Rn) | ((with_reducible refine ak (f := 21) rfl ?_); refine aD (some 40) rfl rfl Tryz.func21 (by kernel_rfl) rfl #[.slice Fe cT.length BN] rfl mz ?_; (with_reducible refine (dG.calls k _ _ cT BI yz _ ?side1 ?side2 A3.out).mono ?_); (case side1 => repeat (first | exact (Kd.av eU.out).2.2 | (with_reducible refine Kd.bO ?_ _) | (with_reducible refine Kd.bQ ?_ _) | (with_reducible refine Kd.bZ ?_))); (case side2 => exact (Kd.av eU.out).2.1); rintro e w45 ⟨v417, rfl, ho0, hb⟩; refine ⟨_, rfl, ?_⟩; replace eU := rb eU hb; have fZ := am (Kd.cV (Kd.cL ho0 (Kd.cA (rz eT.out))) (ai (hz HB.out))); replace eT := am (Kd.bT (rz eT.out) (Kd.cK ho0) hb); replace HB := sb HB hb; (try clear hb); (try clear hb2); (try clear hk); (try clear hi); (try clear ho0); have q46 : (4 : Int) ≤ ((cT.length : Int) : Int) := of_decide_eq_true az; obtain ⟨i046, JN, _, hsz46, _⟩ := info_parts LF; have hroom46 : cT.length ≤ BN := (Kd.av eU.out).2.1; have hC46 : Kd.C k53 _ Fe cT.length cT := (Kd.av eU.out).2.2; have hcut46 := Lu (P := Tryz.prog) 26 53 .i64 Tryz.underlying26 JN Fe cT.length BN 4 (by omega) q46 hroom46; have hr46 := Kd.Lx (m := 4) hC46 (by omega); have IQ : BJ.length = (4 : Int).toNat := (by rw [JH.out, List.length_take]; omega); rw [← JH.out] at hr46; rw [← IQ] at hcut46; have eM := Aside0.mk hr46; have PC := Aside0.mk (show BJ.length ≤ BN from by omega); clear hr46 hC46 hroom46 JN hsz46; have KY46 := Aside0.mk IQ; clear IQ; have KL46 := Aside0.mk (show 4 ≤ cT.length from by omega); replace q46 := eq_true q46) | ((with_reducible refine ak (f := 21) rfl ?_); refine aD (some 46) rfl rfl Tryz.func21 (by kernel_rfl) rfl #[.slice Fe BJ.length BN] rfl mz ?_; (with_reducible refine (dG.calls k _ _ BJ Ri BL _ ?side1 ?side2 A5.out).mono ?_); (case side1 => repeat (first | exact (by repeat (first | (with_reducible exact eM.out) | (with_reducible refine Kd.bO ?_ _) | (with_reducible refine Kd.bQ ?_ _) | (with_reducible refine Kd.bZ ?_) | exact eM.out)) | (with_reducible refine Kd.bO ?_ _) | (with_reducible refine Kd.bQ ?_ _) | (with_reducible refine Kd.bZ ?_))); (case side2 => exact PC.out); rintro e w47 ⟨v425, rfl, ho0, hb⟩; refine ⟨_, rfl, ?_⟩; replace eU := rb eU hb; have gP := am (Kd.cV (Kd.cL (Kd.cL ho0 (Kd.cA (rz eT.out))) (Kd.cA (rz fZ.out))) (ai (hz HB.out))); replace eT := am (Kd.bT (rz eT.out) (Kd.cK ho0) hb); replace fZ := am (Kd.bT (rz fZ.out) (Kd.cK ho0) hb); replace eM := am (Kd.fc (by repeat (first | (with_reducible exact eM.out) | (with_reducible refine Kd.bO ?_ _) | (with_reducible refine Kd.bQ ?_ _) | (with_reducible refine Kd.bZ ?_) | exact eM.out)) hb); replace HB := sb HB hb; (try clear hb); (try clear hb2); (try clear hk); (try clear hi); (try clear ho0)))
   replace eT := am (Kd.ax eT.out); replace eU := am (Kd.ax eU.out); replace fZ := am (Kd.ax fZ.out); replace gP := am (Kd.ax gP.out); replace eM := am (Kd.bZ eM.out); replace HB := am (bw HB.out); have p427 : 0 ≤ (1 : Int) := (by omega); have q427 : 1 < (bk.length : Int) := of_decide_eq_true az; obtain ⟨iA, yA, e427, rB, rC, rD, rE, rF, rG, TX⟩ := kF (Kd.av eT.out).2.2 1 p427 q427
   cases e427
   (try simp only [show (1 : Int).toNat = 1 from rfl, Nat.reduceMul, Nat.reduceEqDiff, Go.Addr.add, ↓reduceIte] at rB); (try simp only [show (1 : Int).toNat = 1 from rfl, Nat.reduceMul, Nat.reduceEqDiff, Go.Addr.add, ↓reduceIte] at rC); (try simp only [show (1 : Int).toNat = 1 from rfl, Nat.reduceMul, Nat.reduceEqDiff, Go.Addr.add, ↓reduceIte] at rD); (try simp only [show (1 : Int).toNat = 1 from rfl, Nat.reduceMul, Nat.reduceEqDiff, Go.Addr.add, ↓reduceIte] at rE); (try simp only [show (1 : Int).toNat = 1 from rfl, Nat.reduceMul, Nat.reduceEqDiff, Go.Addr.add, ↓reduceIte] at rF); (try simp only [show (1 : Int).toNat = 1 from rfl, Nat.reduceMul, Nat.reduceEqDiff, Go.Addr.add, ↓reduceIte] at rG); have qi427 : (1 < bk.length) = True := eq_true (by omega); (try rw [show ((1 : Int)).toNat = 1 from rfl] at rB); (try rw [show 1 * 6 = 6 from rfl] at rB); (try rw [show ((1 : Int)).toNat = 1 from rfl] at rC); (try rw [show 1 * 6 = 6 from rfl] at rC); (try rw [show ((1 : Int)).toNat = 1 from rfl] at rD); (try rw [show 1 * 6 = 6 from rfl] at rD); (try rw [show ((1 : Int)).toNat = 1 from rfl] at rE); (try rw [show 1 * 6 = 6 from rfl] at rE); (try rw [show ((1 : Int)).toNat = 1 from rfl] at rF); (try rw [show 1 * 6 = 6 from rfl] at rF); (try rw [show ((1 : Int)).toNat = 1 from rfl] at rG); (try rw [show 1 * 6 = 6 from rfl] at rG); replace p427 := eq_true p427; replace q427 := eq_true q427; have p428 : 0 ≤ (0 : Int) := (by omega); have q428 : 0 < (bk.length : Int) := of_decide_eq_true az; obtain ⟨PD, yB, e428, rH, rI, rJ, rK, rL, rM, TY⟩ := kF (Kd.av eT.out).2.2 0 p428 q428; obtain rfl : iA = PD := (by injection e428); have qi428 : (0 < bk.length) = True := eq_true (by omega); (try rw [show ((0 : Int)).toNat = 0 from rfl] at rH); (try rw [show 0 * 6 = 0 from rfl] at rH); (try rw [Addr.add_zero'] at rH); (try rw [show ((0 : Int)).toNat = 0 from rfl] at rI); (try rw [show 0 * 6 = 0 from rfl] at rI); (try rw [Addr.add_zero'] at rI); (try rw [show ((0 : Int)).toNat = 0 from rfl] at rJ); (try rw [show 0 * 6 = 0 from rfl] at rJ); (try rw [Addr.add_zero'] at rJ); (try rw [show ((0 : Int)).toNat = 0 from rfl] at rK); (try rw [show 0 * 6 = 0 from rfl] at rK); (try rw [Addr.add_zero'] at rK); (try rw [show ((0 : Int)).toNat = 0 from rfl] at rL); (try rw [show 0 * 6 = 0 from rfl] at rL); (try rw [Addr.add_zero'] at rL); (try rw [show ((0 : Int)).toNat = 0 from rfl] at rM); (try rw [show 0 * 6 = 0 from rfl] at rM); (try rw [Addr.add_zero'] at rM); replace p428 := eq_true p428; replace q428 := eq_true q428; refine iZ (n := 13) (S := fun w' => w'.cell? ⟨iA.block, iA.off + 6, none⟩ = some (.int .i64 ((aa bk 1).f0.f0)) ∧ w'.cell? ⟨iA.block, iA.off + 6 + 1, none⟩ = some (.int .i64 ((aa bk 1).f0.f1)) ∧ w'.cell? ⟨iA.block, iA.off + 6 + 2, none⟩ = some (.int .i64 ((aa bk 1).f1)) ∧ w'.cell? ⟨iA.block, iA.off + 6 + 3, none⟩ = some (.int .i64 ((aa bk 1).f2)) ∧ w'.cell? ⟨iA.block, iA.off + 6 + 4, none⟩ = some (.string ((aa bk 1).f3)) ∧ w'.cell? ⟨iA.block, iA.off + 6 + 5, none⟩ = some (.float .f64 yA) ∧ w'.cell? iA = some (.int .i64 ((aa bk 0).f0.f0)) ∧ w'.cell? ⟨iA.block, iA.off + 1, none⟩ = some (.int .i64 ((aa bk 0).f0.f1)) ∧ w'.cell? ⟨iA.block, iA.off + 2, none⟩ = some (.int .i64 ((aa bk 0).f1)) ∧ w'.cell? ⟨iA.block, iA.off + 3, none⟩ = some (.int .i64 ((aa bk 0).f2)) ∧ w'.cell? ⟨iA.block, iA.off + 4, none⟩ = some (.string ((aa bk 0).f3)) ∧ w'.cell? ⟨iA.block, iA.off + 5, none⟩ = some (.float .f64 yB)) (ds := []) (dn 13 0) (by kernel_rfl) rfl (by kernel_rfl) ⟨rB, rC, rD, rE, rF, rG, rH, rI, rJ, rK, rL, rM⟩ (fun hHeld => ?_); refine gR cj.Rh cj.Pz (fun HT_ HW_ => ?_); generalize w47.drew = w48 at eT eU fZ gP eM HB rB rC rD rE rF rG rH rI rJ rK rL rM hHeld ⊢; refine pz 0 50 (dn 13 1) rfl rfl HT_ ?_; refine pz 1 51 (dn 13 3) rfl rfl HT_ ?_; refine pz 3 53 (dn 13 11) rfl rfl HT_ ?_; refine pz 4 54 (dn 13 27) rfl rfl HT_ ?_; refine fY (i := 2) (N := some 52) (v := ?_) (a' := ?_) (dn 13 31) rfl rfl (dN HT_.out HW_.out (by kernel_rfl)) (fun _ _ _ h => h) (Or.inl ⟨by rfl, ?_⟩) hHeld ?_ ?_; rotate_left
   ·
    rintro w' ⟨s0, s1, s2, s3, s4, s5, s6, s7, s8, s9, s10, s11⟩
    go_simp
    with_reducible rfl
   rotate_left
   ·
    simp only [Act.put, List.setIfInBounds_toArray, List.set_cons_zero, List.set_cons_succ, bN, bR]
    rfl
   refine fY (i := 5) (N := some 55) (v := ?_) (a' := ?_) (dn 13 63) rfl rfl (dN HT_.out HW_.out (by kernel_rfl)) (fun _ _ _ h => h) (Or.inl ⟨by rfl, ?_⟩) hHeld ?_ ?_; rotate_left
   ·
    rintro w' ⟨s0, s1, s2, s3, s4, s5, s6, s7, s8, s9, s10, s11⟩
    go_simp
    with_reducible rfl
   rotate_left
   ·
    simp only [Act.put, List.setIfInBounds_toArray, List.set_cons_zero, List.set_cons_succ, bN, bR]
    rfl
   refine iB (i := 6) (N := some 56) (dn 13 127) rfl rfl (fP HT_.out (by kernel_rfl)) (by decide) (fun K hK => ?_); refine Kd.gj k51 _ 51 ?hg (N := 56) ?hd (xs := ([(⟨(⟨(aa bk 1).f0.f0, (aa bk 1).f0.f1⟩ : S48), (aa bk 1).f1, (aa bk 1).f2, (aa bk 1).f3, (aa bk 1).f4⟩ : S51), (⟨(⟨(aa bk 0).f0.f0, (aa bk 0).f0.f1⟩ : S48), (aa bk 0).f1, (aa bk 0).f2, (aa bk 0).f3, (aa bk 0).f4⟩ : S51)] : List (S51))) (inner := [.int .i64 ((aa bk 1).f0.f0), .int .i64 ((aa bk 1).f0.f1), .int .i64 ((aa bk 1).f1), .int .i64 ((aa bk 1).f2), .string ((aa bk 1).f3), .float .f64 yA, .int .i64 ((aa bk 0).f0.f0), .int .i64 ((aa bk 0).f0.f1), .int .i64 ((aa bk 0).f1), .int .i64 ((aa bk 0).f2), .string ((aa bk 0).f3), .float .f64 yB]) (ok := fun _ => True) (okp := fun _ => True) ?hr ?hp (fun _ hk => hk) trivial (Below.refl _ _) (Nat.le_refl _) (by simp) ?_; (case hd => rfl); (case hg => rfl); (case hr => first | (go_simp; done) | (go_simp; rfl)); (case hp => exact (bK.c6 (show Kd.M k51 _ _ _ (⟨(⟨(aa bk 1).f0.f0, (aa bk 1).f0.f1⟩ : S48), (aa bk 1).f1, (aa bk 1).f2, (aa bk 1).f3, (aa bk 1).f4⟩ : S51) [.int .i64 ((aa bk 1).f0.f0), .int .i64 ((aa bk 1).f0.f1), .int .i64 ((aa bk 1).f1), .int .i64 ((aa bk 1).f2), .string ((aa bk 1).f3), .float .f64 yA] from (qp _ _ _ (⟨(⟨(aa bk 1).f0.f0, (aa bk 1).f0.f1⟩ : S48), (aa bk 1).f1, (aa bk 1).f2, (aa bk 1).f3, (aa bk 1).f4⟩ : S51)  fz)) (bK.c6 (show Kd.M k51 _ _ _ (⟨(⟨(aa bk 0).f0.f0, (aa bk 0).f0.f1⟩ : S48), (aa bk 0).f1, (aa bk 0).f2, (aa bk 0).f3, (aa bk 0).f4⟩ : S51) [.int .i64 ((aa bk 0).f0.f0), .int .i64 ((aa bk 0).f0.f1), .int .i64 ((aa bk 0).f1), .int .i64 ((aa bk 0).f2), .string ((aa bk 0).f3), .float .f64 yB] from (qp _ _ _ (⟨(⟨(aa bk 0).f0.f0, (aa bk 0).f0.f1⟩ : S48), (aa bk 0).f1, (aa bk 0).f2, (aa bk 0).f3, (aa bk 0).f4⟩ : S51)  fz)) (bK.none _ _)))); intro v430 w49 tR hb hg_ hnew_; have HS0_ := (hb.cell (World.block_lt_of_cell? _ _ (hHeld.1))).trans (hHeld.1); have HS1_ := (hb.cell (World.block_lt_of_cell? _ _ (hHeld.2.1))).trans (hHeld.2.1); have HS2_ := (hb.cell (World.block_lt_of_cell? _ _ (hHeld.2.2.1))).trans (hHeld.2.2.1); have HS3_ := (hb.cell (World.block_lt_of_cell? _ _ (hHeld.2.2.2.1))).trans (hHeld.2.2.2.1); have HS4_ := (hb.cell (World.block_lt_of_cell? _ _ (hHeld.2.2.2.2.1))).trans (hHeld.2.2.2.2.1); have HS5_ := (hb.cell (World.block_lt_of_cell? _ _ (hHeld.2.2.2.2.2.1))).trans (hHeld.2.2.2.2.2.1); have HS6_ := (hb.cell (World.block_lt_of_cell? _ _ (hHeld.2.2.2.2.2.2.1))).trans (hHeld.2.2.2.2.2.2.1); have HS7_ := (hb.cell (World.block_lt_of_cell? _ _ (hHeld.2.2.2.2.2.2.2.1))).trans (hHeld.2.2.2.2.2.2.2.1); have HS8_ := (hb.cell (World.block_lt_of_cell? _ _ (hHeld.2.2.2.2.2.2.2.2.1))).trans (hHeld.2.2.2.2.2.2.2.2.1); have HS9_ := (hb.cell (World.block_lt_of_cell? _ _ (hHeld.2.2.2.2.2.2.2.2.2.1))).trans (hHeld.2.2.2.2.2.2.2.2.2.1); have HS10_ := (hb.cell (World.block_lt_of_cell? _ _ (hHeld.2.2.2.2.2.2.2.2.2.2.1))).trans (hHeld.2.2.2.2.2.2.2.2.2.2.1); have HS11_ := (hb.cell (World.block_lt_of_cell? _ _ (hHeld.2.2.2.2.2.2.2.2.2.2.2))).trans (hHeld.2.2.2.2.2.2.2.2.2.2.2); clear hg_ hnew_
   (first | rw [← JI.out] at tR | (simp only [Int.reduceToNat, Int.toNat_natCast] at tR; rw [← JI.out] at tR))
   replace eU := rb eU hb; have iu := am (Kd.cV (Kd.cL (Kd.cL (Kd.cL tR (Kd.cA (rz eT.out))) (Kd.cA (rz fZ.out))) (Kd.cA (rz gP.out))) (ai (hz HB.out))); replace eT := am (Kd.bT (rz eT.out) (Kd.cK tR) hb); replace fZ := am (Kd.bT (rz fZ.out) (Kd.cK tR) hb); replace gP := am (Kd.bT (rz gP.out) (Kd.cK tR) hb); replace eM := am (Kd.fc (by repeat (first | (with_reducible exact eM.out) | (with_reducible refine Kd.bO ?_ _) | (with_reducible refine Kd.bQ ?_ _) | (with_reducible refine Kd.bZ ?_) | exact eM.out)) hb); replace HB := sb HB hb; clear hb tR; obtain ⟨Ro, Rp, M0⟩ := Kd.bu iu.out
   (first | subst M0 | (injection M0 with f1_ f2_ f3_; have f4_ := f1_.symm; have f5_ := f3_.symm; clear f1_ f2_ f3_; subst f4_; subst f5_))
   refine hK.out _ _ ⟨HS0_, HS1_, HS2_, HS3_, HS4_, HS5_, HS6_, HS7_, HS8_, HS9_, HS10_, HS11_⟩ (fun hHeld => ?_); clear hK K; refine dH (a' := ?_) ?_ ?_; rotate_left
   ·
    show Act.put _ (some 56) _ = _; simp only [Act.put, List.setIfInBounds_toArray, List.set_cons_zero, List.set_cons_succ, bN, bR]
    rfl
   refine iB (i := 7) (N := some 57) (dn 13 255) rfl rfl (fP HT_.out (by kernel_rfl)) (by decide) (fun K hK => ?_); refine mS Tryz.func11 (by kernel_rfl) rfl #[.slice Ro IK.length Rp] (by rfl) rfl rfl mz ?_
   with_reducible refine (aN.calls k _ _ IK Rj E7 _ ?side1 ?side2 A8.out).mono ?_
   (case side1 => repeat (first | exact (Kd.av iu.out).2.2 | (with_reducible refine Kd.bO ?_ _) | (with_reducible refine Kd.bQ ?_ _) | (with_reducible refine Kd.bZ ?_))); (case side2 => exact (Kd.av iu.out).2.1); rintro e w52 ⟨v434, rfl, ho0, hb⟩; have HS0_ := (hb.cell (World.block_lt_of_cell? _ _ (hHeld.1))).trans (hHeld.1); have HS1_ := (hb.cell (World.block_lt_of_cell? _ _ (hHeld.2.1))).trans (hHeld.2.1); have HS2_ := (hb.cell (World.block_lt_of_cell? _ _ (hHeld.2.2.1))).trans (hHeld.2.2.1); have HS3_ := (hb.cell (World.block_lt_of_cell? _ _ (hHeld.2.2.2.1))).trans (hHeld.2.2.2.1); have HS4_ := (hb.cell (World.block_lt_of_cell? _ _ (hHeld.2.2.2.2.1))).trans (hHeld.2.2.2.2.1); have HS5_ := (hb.cell (World.block_lt_of_cell? _ _ (hHeld.2.2.2.2.2.1))).trans (hHeld.2.2.2.2.2.1); have HS6_ := (hb.cell (World.block_lt_of_cell? _ _ (hHeld.2.2.2.2.2.2.1))).trans (hHeld.2.2.2.2.2.2.1); have HS7_ := (hb.cell (World.block_lt_of_cell? _ _ (hHeld.2.2.2.2.2.2.2.1))).trans (hHeld.2.2.2.2.2.2.2.1); have HS8_ := (hb.cell (World.block_lt_of_cell? _ _ (hHeld.2.2.2.2.2.2.2.2.1))).trans (hHeld.2.2.2.2.2.2.2.2.1); have HS9_ := (hb.cell (World.block_lt_of_cell? _ _ (hHeld.2.2.2.2.2.2.2.2.2.1))).trans (hHeld.2.2.2.2.2.2.2.2.2.1); have HS10_ := (hb.cell (World.block_lt_of_cell? _ _ (hHeld.2.2.2.2.2.2.2.2.2.2.1))).trans (hHeld.2.2.2.2.2.2.2.2.2.2.1); have HS11_ := (hb.cell (World.block_lt_of_cell? _ _ (hHeld.2.2.2.2.2.2.2.2.2.2.2))).trans (hHeld.2.2.2.2.2.2.2.2.2.2.2); refine ⟨_, rfl, ?_⟩; replace eT := rb eT hb; replace fZ := rb fZ hb; replace gP := rb gP hb; replace iu := rb iu hb; have jd := am (Kd.cV (Kd.cL ho0 (Kd.cA (rz eU.out))) (ai (hz HB.out))); replace eU := am (Kd.bT (rz eU.out) (Kd.cK ho0) hb); replace eM := am (Kd.fc (by repeat (first | (with_reducible exact eM.out) | (with_reducible refine Kd.bO ?_ _) | (with_reducible refine Kd.bQ ?_ _) | (with_reducible refine Kd.bZ ?_) | exact eM.out)) hb); replace HB := sb HB hb; (try clear hb); (try clear hb2); (try clear hk); (try clear hi); (try clear ho0); refine hK.out _ _ ⟨HS0_, HS1_, HS2_, HS3_, HS4_, HS5_, HS6_, HS7_, HS8_, HS9_, HS10_, HS11_⟩ (fun hHeld => ?_); clear hK K; refine dH (a' := ?_) ?_ ?_; rotate_left
   ·
    show Act.put _ (some 57) _ = _; simp only [Act.put, List.setIfInBounds_toArray, List.set_cons_zero, List.set_cons_succ, bN, bR]
    rfl
   refine pz 8 49 (dn 13 511) rfl rfl HT_ ?_; refine pz 9 58 (dn 13 1023) rfl rfl HT_ ?_; refine pz 10 59 (dn 13 2047) rfl rfl HT_ ?_; refine pz 11 9 (dn 13 4095) rfl rfl HT_ ?_; refine pz 12 10 (dn 13 8191) rfl rfl HT_ ?_; refine jF (iS HT_.out (by kernel_rfl)) ?_
   try go_wp2_with (first | ((with_reducible refine ak (f := 13) rfl ?_); refine aD (some 61) rfl rfl Tryz.func13 (by kernel_rfl) rfl #[.string (⟨#[2, 97, 98, 99]⟩ : ByteArray)] rfl mz ?_; (with_reducible refine (dg.calls (⟨#[2, 97, 98, 99]⟩ : ByteArray) E8 E9 Fa _ A9.out).mono ?_); rintro e w53 ⟨rfl, hb⟩; refine ⟨_, rfl, ?_⟩; replace eT := rb eT hb; replace eU := rb eU hb; replace fZ := rb fZ hb; replace gP := rb gP hb; replace iu := rb iu hb; replace jd := rb jd hb; replace eM := am (Kd.fc (by repeat (first | (with_reducible exact eM.out) | (with_reducible refine Kd.bO ?_ _) | (with_reducible refine Kd.bQ ?_ _) | (with_reducible refine Kd.bZ ?_) | exact eM.out)) hb); replace HB := sb HB hb; (try clear hb); (try clear hb2); (try clear hk); (try clear hi)) | ((with_reducible refine ak (f := 13) rfl ?_); refine aD (some 66) rfl rfl Tryz.func13 (by kernel_rfl) rfl #[.string (⟨#[5, 97, 98, 99]⟩ : ByteArray)] rfl mz ?_; (with_reducible refine (dg.calls (⟨#[5, 97, 98, 99]⟩ : ByteArray) Rk Rl Fb _ A10.out).mono ?_); rintro e w54 ⟨rfl, hb⟩; refine ⟨_, rfl, ?_⟩; replace eT := rb eT hb; replace eU := rb eU hb; replace fZ := rb fZ hb; replace gP := rb gP hb; replace iu := rb iu hb; replace jd := rb jd hb; replace eM := am (Kd.fc (by repeat (first | (with_reducible exact eM.out) | (with_reducible refine Kd.bO ?_ _) | (with_reducible refine Kd.bQ ?_ _) | (with_reducible refine Kd.bZ ?_) | exact eM.out)) hb); replace HB := sb HB hb; (try clear hb); (try clear hb2); (try clear hk); (try clear hi)) | ((with_reducible refine bG (N := 72) rfl ?_); (try (refine iq (by rfl) ?_; dsimp only)); refine Kd.rW Kd.flt _ 49 ?hg (N := 72) ?hd (xs := ([(0 : Int), (4607182418800017408 : Int), (9221120237041090560 : Int)] : List (Int))) (inner := [.float .f64 0, .float .f64 4607182418800017408, .float .f64 nb0]) (ok := fun _ => True) (okp := fun _ => True) ?hr ?hp (fun _ hk => hk) trivial (Below.refl _ _) (Nat.le_refl _) (by simp) ?_; (case hd => rfl); (case hg => rfl); (case hr => first | (go_simp; done) | (go_simp; rfl)); (case hp => exact (bK.one (show Kd.M Kd.flt _ _ _ (0 : Int) [.float .f64 0] from ⟨_, rfl, fz⟩) (bK.one (show Kd.M Kd.flt _ _ _ (4607182418800017408 : Int) [.float .f64 4607182418800017408] from ⟨_, rfl, fz⟩) (bK.one (show Kd.M Kd.flt _ _ _ (9221120237041090560 : Int) [.float .f64 nb0] from ⟨_, rfl, fz⟩) (bK.none _ _))))); intro v443 w55 BO hb hg_ hnew_; clear hg_ hnew_; (first | rw [← JJ.out] at BO | (simp only [Int.reduceToNat, Int.toNat_natCast] at BO; rw [← JJ.out] at BO)); replace eT := rb eT hb; replace eU := rb eU hb; replace fZ := rb fZ hb; replace gP := rb gP hb; replace iu := rb iu hb; replace jd := rb jd hb; have je := am (Kd.cV BO (ai (hz HB.out))); replace eM := am (Kd.fc (by repeat (first | (with_reducible exact eM.out) | (with_reducible refine Kd.bO ?_ _) | (with_reducible refine Kd.bQ ?_ _) | (with_reducible refine Kd.bZ ?_) | exact eM.out)) hb); replace HB := sb HB hb; clear hb BO; obtain ⟨Ig, Ih, Ii⟩ := Kd.bu je.out; subst Ii) | ((with_reducible refine ak (f := 16) rfl ?_); refine aD (some 73) rfl rfl Tryz.func16 (by kernel_rfl) rfl #[.slice Ig IL.length Ih] rfl mz ?_; (with_reducible refine (bg.calls k _ _ IL mH _ ?side1 ?side2 A11.out).mono ?_); (case side1 => repeat (first | exact (Kd.av je.out).2.2 | (with_reducible refine Kd.bO ?_ _) | (with_reducible refine Kd.bQ ?_ _) | (with_reducible refine Kd.bZ ?_))); (case side2 => exact (Kd.av je.out).2.1); rintro e w58 ⟨rfl, hb⟩; refine ⟨_, rfl, ?_⟩; replace eT := rb eT hb; replace eU := rb eU hb; replace fZ := rb fZ hb; replace gP := rb gP hb; replace iu := rb iu hb; replace jd := rb jd hb; replace je := rb je hb; replace eM := am (Kd.fc (by repeat (first | (with_reducible exact eM.out) | (with_reducible refine Kd.bO ?_ _) | (with_reducible refine Kd.bQ ?_ _) | (with_reducible refine Kd.bZ ?_) | exact eM.out)) hb); replace HB := sb HB hb; (try clear hb); (try clear hb2); (try clear hk); (try clear hi)) | ((with_reducible refine ak (f := 23) rfl ?_); refine aD (some 74) rfl rfl Tryz.func23 (by kernel_rfl) rfl #[.string mH, .int .i64 3] rfl mz ?_; (with_reducible refine (bI.calls k mH 3 IM IP _ A12.out).mono ?_); rintro e w59 ⟨v448, rfl, ho0, hb⟩; refine ⟨_, rfl, ?_⟩; replace eT := rb eT hb; replace eU := rb eU hb; replace fZ := rb fZ hb; replace gP := rb gP hb; replace iu := rb iu hb; replace jd := rb jd hb; have ku := am (Kd.cV (Kd.cL ho0 (Kd.cA (rz je.out))) (ai (hz HB.out))); replace je := am (Kd.bT (rz je.out) (Kd.cK ho0) hb); replace eM := am (Kd.fc (by repeat (first | (with_reducible exact eM.out) | (with_reducible refine Kd.bO ?_ _) | (with_reducible refine Kd.bQ ?_ _) | (with_reducible refine Kd.bZ ?_) | exact eM.out)) hb); replace HB := sb HB hb; (try clear hb); (try clear hb2); (try clear hk); (try clear hi); (try clear ho0)) | ((with_reducible refine ak (f := 23) rfl ?_); refine aD (some 78) rfl rfl Tryz.func23 (by kernel_rfl) rfl #[.string (⟨#[2, 0, 1, 0]⟩ : ByteArray), .int .i64 1] rfl mz ?_; (with_reducible refine (bI.calls k (⟨#[2, 0, 1, 0]⟩ : ByteArray) 1 Rm MY _ A13.out).mono ?_); rintro e w60 ⟨v452, rfl, ho0, hb⟩; refine ⟨_, rfl, ?_⟩; replace eT := rb eT hb; replace eU := rb eU hb; replace fZ := rb fZ hb; replace gP := rb gP hb; replace iu := rb iu hb; replace jd := rb jd hb; have oV := am (Kd.cV (Kd.cL (Kd.cL ho0 (Kd.cA (rz je.out))) (Kd.cA (rz ku.out))) (ai (hz HB.out))); replace je := am (Kd.bT (rz je.out) (Kd.cK ho0) hb); replace ku := am (Kd.bT (rz ku.out) (Kd.cK ho0) hb); replace eM := am (Kd.fc (by repeat (first | (with_reducible exact eM.out) | (with_reducible refine Kd.bO ?_ _) | (with_reducible refine Kd.bQ ?_ _) | (with_reducible refine Kd.bZ ?_) | exact eM.out)) hb); replace HB := sb HB hb; (try clear hb); (try clear hb2); (try clear hk); (try clear hi); (try clear ho0); have p454 : 0 ≤ (0 : Int) := (by omega); have q454 : 0 < (cT.length : Int) := of_decide_eq_true az; obtain ⟨wU, e454, yC, yD⟩ := jU (Kd.av eU.out).2.2 0 p454 q454; cases e454; have qi454 : (0 < cT.length) = True := eq_true (by omega); (try rw [show ((0 : Int)).toNat = 0 from rfl] at yC); (try rw [show 0 * 2 = 0 from rfl] at yC); (try rw [Addr.add_zero'] at yC); (try rw [show ((0 : Int)).toNat = 0 from rfl] at yD); (try rw [show 0 * 2 = 0 from rfl] at yD); (try rw [Addr.add_zero'] at yD); replace p454 := eq_true p454; replace q454 := eq_true q454; have p455 : 0 ≤ (0 : Int) := (by omega); have q455 : 0 < (cT.length : Int) := of_decide_eq_true az; obtain ⟨PE, e455, yE, yF⟩ := jU (Kd.av eU.out).2.2 0 p455 q455; obtain rfl : wU = PE := (by injection e455); have qi455 : (0 < cT.length) = True := eq_true (by omega); (try rw [show ((0 : Int)).toNat = 0 from rfl] at yE); (try rw [show 0 * 2 = 0 from rfl] at yE); (try rw [Addr.add_zero'] at yE); (try rw [show ((0 : Int)).toNat = 0 from rfl] at yF); (try rw [show 0 * 2 = 0 from rfl] at yF); (try rw [Addr.add_zero'] at yF); replace p455 := eq_true p455; replace q455 := eq_true q455; have p456 : 0 ≤ (1 : Int) := (by omega); have q456 : 1 < (cT.length : Int) := of_decide_eq_true az; obtain ⟨PF, e456, yG, yH⟩ := jU (Kd.av eU.out).2.2 1 p456 q456; obtain rfl : wU = PF := (by injection e456); (try simp only [show (1 : Int).toNat = 1 from rfl, Nat.reduceMul, Nat.reduceEqDiff, Go.Addr.add, ↓reduceIte] at yG); (try simp only [show (1 : Int).toNat = 1 from rfl, Nat.reduceMul, Nat.reduceEqDiff, Go.Addr.add, ↓reduceIte] at yH); have qi456 : (1 < cT.length) = True := eq_true (by omega); (try rw [show ((1 : Int)).toNat = 1 from rfl] at yG); (try rw [show 1 * 2 = 2 from rfl] at yG); (try rw [show ((1 : Int)).toNat = 1 from rfl] at yH); (try rw [show 1 * 2 = 2 from rfl] at yH); replace p456 := eq_true p456; replace q456 := eq_true q456; have p457 : 0 ≤ (2 : Int) := (by omega); have q457 : 2 < (cT.length : Int) := of_decide_eq_true az; obtain ⟨PG, e457, yI, yJ⟩ := jU (Kd.av eU.out).2.2 2 p457 q457; obtain rfl : wU = PG := (by injection e457); (try simp only [show (2 : Int).toNat = 2 from rfl, Nat.reduceMul, Nat.reduceEqDiff, Go.Addr.add, ↓reduceIte] at yI); (try simp only [show (2 : Int).toNat = 2 from rfl, Nat.reduceMul, Nat.reduceEqDiff, Go.Addr.add, ↓reduceIte] at yJ); have qi457 : (2 < cT.length) = True := eq_true (by omega); (try rw [show ((2 : Int)).toNat = 2 from rfl] at yI); (try rw [show 2 * 2 = 4 from rfl] at yI); (try rw [show ((2 : Int)).toNat = 2 from rfl] at yJ); (try rw [show 2 * 2 = 4 from rfl] at yJ); replace p457 := eq_true p457; replace q457 := eq_true q457; have p458 : 0 ≤ (3 : Int) := (by omega); have q458 : 3 < (cT.length : Int) := of_decide_eq_true az; obtain ⟨PI, e458, yK, yL⟩ := jU (Kd.av eU.out).2.2 3 p458 q458; obtain rfl : wU = PI := (by injection e458); (try simp only [show (3 : Int).toNat = 3 from rfl, Nat.reduceMul, Nat.reduceEqDiff, Go.Addr.add, ↓reduceIte] at yK); (try simp only [show (3 : Int).toNat = 3 from rfl, Nat.reduceMul, Nat.reduceEqDiff, Go.Addr.add, ↓reduceIte] at yL); have qi458 : (3 < cT.length) = True := eq_true (by omega); (try rw [show ((3 : Int)).toNat = 3 from rfl] at yK); (try rw [show 3 * 2 = 6 from rfl] at yK); (try rw [show ((3 : Int)).toNat = 3 from rfl] at yL); (try rw [show 3 * 2 = 6 from rfl] at yL); replace p458 := eq_true p458; replace q458 := eq_true q458; have p459 : 0 ≤ (4 : Int) := (by omega); have q459 : 4 < (cT.length : Int) := of_decide_eq_true az; obtain ⟨PJ, e459, yM, yN⟩ := jU (Kd.av eU.out).2.2 4 p459 q459; obtain rfl : wU = PJ := (by injection e459); (try simp only [show (4 : Int).toNat = 4 from rfl, Nat.reduceMul, Nat.reduceEqDiff, Go.Addr.add, ↓reduceIte] at yM); (try simp only [show (4 : Int).toNat = 4 from rfl, Nat.reduceMul, Nat.reduceEqDiff, Go.Addr.add, ↓reduceIte] at yN); have qi459 : (4 < cT.length) = True := eq_true (by omega); (try rw [show ((4 : Int)).toNat = 4 from rfl] at yM); (try rw [show 4 * 2 = 8 from rfl] at yM); (try rw [show ((4 : Int)).toNat = 4 from rfl] at yN); (try rw [show 4 * 2 = 8 from rfl] at yN); replace p459 := eq_true p459; replace q459 := eq_true q459; obtain ⟨U2, U3, Rq⟩ := Kd.bu fZ.out; subst Rq) | (go_at_call 25; (with_reducible refine (aW.calls k _ _ BI _ _ bk true _ ?side1 ?side2 ?side3 ?side4 A27.out).mono ?_); (case side1 => repeat (first | exact (Kd.av fZ.out).2.2 | (with_reducible refine Kd.bO ?_ _) | (with_reducible refine Kd.bQ ?_ _) | (with_reducible refine Kd.bZ ?_))); (case side2 => exact (Kd.av fZ.out).2.1); (case side3 => repeat (first | exact (Kd.av eT.out).2.2 | (with_reducible refine Kd.bO ?_ _) | (with_reducible refine Kd.bQ ?_ _) | (with_reducible refine Kd.bZ ?_))); (case side4 => exact (Kd.av eT.out).2.1); rintro e w62 ⟨rfl, hb⟩; replace eT := rb eT hb; replace eU := rb eU hb; replace fZ := rb fZ hb; replace gP := rb gP hb; replace iu := rb iu hb; replace jd := rb jd hb; replace je := rb je hb; replace ku := rb ku hb; replace oV := rb oV hb; replace eM := am (Kd.fc (by repeat (first | (with_reducible exact eM.out) | (with_reducible refine Kd.bO ?_ _) | (with_reducible refine Kd.bQ ?_ _) | (with_reducible refine Kd.bZ ?_) | exact eM.out)) hb); replace HB := sb HB hb; (try clear hb); (try clear hb2); (try clear hk); (try clear hi)) | (go_at_call 18; (with_reducible refine (dm.calls k (⟨#[97, 98]⟩ : ByteArray) mI _ A35.out).mono ?_); rintro e w63 ⟨rfl, hb⟩; replace eT := rb eT hb; replace eU := rb eU hb; replace fZ := rb fZ hb; replace gP := rb gP hb; replace iu := rb iu hb; replace jd := rb jd hb; replace je := rb je hb; replace ku := rb ku hb; replace oV := rb oV hb; replace eM := am (Kd.fc (by repeat (first | (with_reducible exact eM.out) | (with_reducible refine Kd.bO ?_ _) | (with_reducible refine Kd.bQ ?_ _) | (with_reducible refine Kd.bZ ?_) | exact eM.out)) hb); replace HB := sb HB hb; (try clear hb); (try clear hb2); (try clear hk); (try clear hi)) | ((with_reducible refine bG (N := 169) rfl ?_); (try (refine iq (by rfl) ?_; dsimp only)); refine Kd.rW Kd.flt _ 49 ?hg (N := 169) ?hd (xs := ([(0 : Int), (4607182418800017408 : Int), (9221120237041090560 : Int)] : List (Int))) (inner := [.float .f64 0, .float .f64 4607182418800017408, .float .f64 nb0]) (ok := fun _ => True) (okp := fun _ => True) ?hr ?hp (fun _ hk => hk) trivial (Below.refl _ _) (Nat.le_refl _) (by simp) ?_; (case hd => rfl); (case hg => rfl); (case hr => first | (go_simp; done) | (go_simp; rfl)); (case hp => exact (bK.one (show Kd.M Kd.flt _ _ _ (0 : Int) [.float .f64 0] from ⟨_, rfl, fz⟩) (bK.one (show Kd.M Kd.flt _ _ _ (4607182418800017408 : Int) [.float .f64 4607182418800017408] from ⟨_, rfl, fz⟩) (bK.one (show Kd.M Kd.flt _ _ _ (9221120237041090560 : Int) [.float .f64 nb0] from ⟨_, rfl, fz⟩) (bK.none _ _))))); intro v463 w64 tS hb hg_ hnew_; clear hg_ hnew_; (first | rw [← JM.out] at tS | (simp only [Int.reduceToNat, Int.toNat_natCast] at tS; rw [← JM.out] at tS)); replace eT := rb eT hb; replace eU := rb eU hb; replace fZ := rb fZ hb; replace gP := rb gP hb; replace iu := rb iu hb; replace jd := rb jd hb; have wV := am (Kd.cV (Kd.cL (Kd.cL (Kd.cL tS (Kd.cA (rz je.out))) (Kd.cA (rz ku.out))) (Kd.cA (rz oV.out))) (ai (hz HB.out))); replace je := am (Kd.bT (rz je.out) (Kd.cK tS) hb); replace ku := am (Kd.bT (rz ku.out) (Kd.cK tS) hb); replace oV := am (Kd.bT (rz oV.out) (Kd.cK tS) hb); replace eM := am (Kd.fc (by repeat (first | (with_reducible exact eM.out) | (with_reducible refine Kd.bO ?_ _) | (with_reducible refine Kd.bQ ?_ _) | (with_reducible refine Kd.bZ ?_) | exact eM.out)) hb); replace HB := sb HB hb; clear hb tS; obtain ⟨U4, U5, Rs⟩ := Kd.bu ku.out; subst Rs; obtain ⟨U6, U7, Rt⟩ := Kd.bu wV.out; subst Rt) | (go_at_call 26; (with_reducible refine (aK.calls k _ _ IM _ _ MZ true _ ?side1 ?side2 ?side3 ?side4 A38.out).mono ?_); (case side1 => repeat (first | exact (Kd.av ku.out).2.2 | (with_reducible refine Kd.bO ?_ _) | (with_reducible refine Kd.bQ ?_ _) | (with_reducible refine Kd.bZ ?_))); (case side2 => exact (Kd.av ku.out).2.1); (case side3 => repeat (first | exact (Kd.av wV.out).2.2 | (with_reducible refine Kd.bO ?_ _) | (with_reducible refine Kd.bQ ?_ _) | (with_reducible refine Kd.bZ ?_))); (case side4 => exact (Kd.av wV.out).2.1); rintro e w68 ⟨rfl, hb⟩; replace eT := rb eT hb; replace eU := rb eU hb; replace fZ := rb fZ hb; replace gP := rb gP hb; replace iu := rb iu hb; replace jd := rb jd hb; replace je := rb je hb; replace ku := rb ku hb; replace oV := rb oV hb; replace wV := rb wV hb; replace eM := am (Kd.fc (by repeat (first | (with_reducible exact eM.out) | (with_reducible refine Kd.bO ?_ _) | (with_reducible refine Kd.bQ ?_ _) | (with_reducible refine Kd.bZ ?_) | exact eM.out)) hb); replace HB := sb HB hb; (try clear hb); (try clear hb2); (try clear hk); (try clear hi)))
   go_ret
   exact ⟨ez, hz HB.out⟩
  ·
   replace c39 := Bool.eq_false_iff.mpr c39; subst c39; have H1 : (none) = some r := by rw [if_neg (show ¬ (false = true) by decide)] at H; exact H
   clear H; have H := H1; clear H1; exact absurd H (by simp)
 ·
  replace c28 := Bool.eq_false_iff.mpr c28; subst c28; have H1 : (none) = some r := by rw [if_neg (show ¬ (false = true) by decide)] at H; exact H
  clear H; have H := H1; clear H1; exact absurd H (by simp)
def fh.l0 : Nat → Int → List Int → Option (ByteArray)
 | 0, _, _ => none
 | k + 1, x0, x3 => if x0 > 127 then (if x3.length < 140737488355328 then (fh.l0 k (IntKind.u64.wrap (Int.tdiv x0 128)) (x3 ++ [((Int.tmod x0 128) + 128) % 256])) else (none)) else (if x3.length < 140737488355328 then (some (strOfNums (x3 ++ [(x0) % 256]))) else (none))
def fh.f (k : Nat) (a0 : Int) : Option (ByteArray) := fh.l0 k a0 (([] : List Int))
def mK.f (k : Nat) (a0 : ByteArray) : Option (ByteArray) := (fh.f k (IntKind.u64.wrap ((a0.size : Int)))).bind fun M3 => (if M3.size + a0.size ≤ 9223372036854775807 then (some (M3 ++ a0)) else (none))
end Go.Proofs.YtfgnjndfnijjoaaGreat.Print
end
section
namespace Go.Proofs.YtfgnjndfnijjoaaGreat.Print
open Go.RowKit Go.Proofs.YtfgnjndfnijjoaaGreatW.PrintWords Go.Proofs.YtfgnjndfnijjoaaGreatW.PrintLast Go.Proofs.YtfgnjndfnijjoaaGreatW.PrintMore
attribute [local go_sem] dJ dK eF eG cZ dc dL dM
attribute [local go_sem] bH
set_option linter.unusedVariables false
set_option linter.unusedSimpArgs false
mutual
def cU.l0 : Nat → List Bool → List Int → Bool → Int → Option (List Int)
 | 0, _, _, _, _ => none
 | k + 1, x0, x3, x4, x5 => if x5 < (x0.length : Int) then (cU.l1 k x0 x3 x4 x5 0) else (some x3)
def cU.l1 : Nat → List Bool → List Int → Bool → Int → Int → Option (List Int)
 | 0, _, _, _, _, _ => none
 | k + 1, x0, x3, x4, x5, x6 => if x5 < (x0.length : Int) then (if 0 ≤ x5 then (if ((fW false x0 x5) == x4) = true then (cU.l1 k x0 x3 x4 (wrap64 (x5 + 1)) (wrap64 (x6 + 1))) else (if x3.length < 17592186044416 then (cU.l0 k x0 (x3 ++ [x6]) (!x4) x5) else (none))) else (none)) else (if x3.length < 17592186044416 then (cU.l0 k x0 (x3 ++ [x6]) (!x4) x5) else (none))
end
def cU.f (k : Nat) (l0 : List Bool) : Option (List Int) := cU.l0 k l0 ([] : List Int) false 0
def fC.l0 : Nat → List Int → ByteArray → Int → Option (ByteArray)
 | 0, _, _, _ => none
 | k + 1, x3, x4, x5 => if x5 < (x3.length : Int) then (if 0 ≤ x5 then ((fh.f k (IntKind.u64.wrap (rd x3 x5))).bind fun M4 => (if x4.size + M4.size ≤ 9223372036854775807 then (fC.l0 k x3 (x4 ++ M4) (wrap64 (x5 + 1))) else (none))) else (none)) else (some x4)
def fC.f (k : Nat) (l0 : List Bool) : Option (ByteArray) := (cU.f k l0).bind fun Ru => (fC.l0 k Ru (⟨#[]⟩ : ByteArray) 0)
def gB.l0 : Nat → Int → Int → Int → Option (Int)
 | 0, _, _, _ => none
 | k + 1, x0, x3, x4 => if x4 < 8 then (gB.l0 k (IntKind.u64.wrap (Int.tdiv x0 256)) (IntKind.u64.wrap ((IntKind.u64.wrap (256 * x3)) + (Int.tmod x0 256))) (wrap64 (x4 + 1))) else (some x3)
def gB.f (k : Nat) (a0 : Int) : Option (Int) := gB.l0 k a0 0 0
def gx.l0 : Nat → List (Int) → ByteArray → Int → Int → Option (ByteArray)
 | 0, _, _, _, _ => none
 | k + 1, x0, x3, x4, x5 => if x5 < (x0.length : Int) then (if 0 ≤ x5 then ((dx.f (jl x0 x5)).bind fun M5 => ((gB.f k (Go.bits .xor .u64 M5 x4)).bind fun Rv => ((fh.f k Rv).bind fun M6 => (if x3.size + M6.size ≤ 9223372036854775807 then (gx.l0 k x0 (x3 ++ M6) M5 (wrap64 (x5 + 1))) else (none))))) else (none)) else (some x3)
def gx.f (k : Nat) (l0 : List (Int)) : Option (ByteArray) := gx.l0 k l0 (⟨#[]⟩ : ByteArray) 0 0
end Go.Proofs.YtfgnjndfnijjoaaGreat.Print
end
namespace Go.Proofs.YtfgnjndfnijjoaaGreat.Print
end Go.Proofs.YtfgnjndfnijjoaaGreat.Print
namespace Go.Proofs.YtfgnjndfnijjoaaGreat.Print
end Go.Proofs.YtfgnjndfnijjoaaGreat.Print
namespace Go.Proofs.YtfgnjndfnijjoaaGreat.Print
end Go.Proofs.YtfgnjndfnijjoaaGreat.Print
namespace Go.Proofs.YtfgnjndfnijjoaaGreat.Print
end Go.Proofs.YtfgnjndfnijjoaaGreat.Print
namespace Go.Proofs.YtfgnjndfnijjoaaGreat.Print
end Go.Proofs.YtfgnjndfnijjoaaGreat.Print
section
namespace Go.Proofs.YtfgnjndfnijjoaaGreat.Print
open Go.RowKit Go.Proofs.YtfgnjndfnijjoaaGreatW.PrintWords Go.Proofs.YtfgnjndfnijjoaaGreatW.PrintLast Go.Proofs.YtfgnjndfnijjoaaGreatW.PrintMore
attribute [local go_sem] dJ dK eF eG cZ dc dL dM
attribute [local go_sem] bH
set_option linter.unusedVariables false
set_option linter.unusedSimpArgs false
mutual
def aU.l0 : Nat → Int → Int → Int → ByteArray → Int → Int → Option (Int × ByteArray × Int × Int)
 | 0, _, _, _, _, _, _ => none
 | k + 1, x3, x4, x5, x1000, x1001, x1002 => if x5 < 10 then (aU.j1 k x3 x4 x5 (x1002 == 0) x1000 x1001 x1002) else (aU.j1 k x3 x4 x5 false x1000 x1001 x1002)
def aU.j1 : Nat → Int → Int → Int → Bool → ByteArray → Int → Int → Option (Int × ByteArray × Int × Int)
 | 0, _, _, _, _, _, _, _ => none
 | k + 1, x3, x4, x5, x15, x1000, x1001, x1002 => if x15 = true then (if (wrap64 (x1001 + x5)) ≥ (x1000.size : Int) then (some (0, x1000, x1001, 2)) else (if 0 ≤ (wrap64 (x1001 + x5)) then (if (wrap64 (x1001 + x5)) < (x1000.size : Int) then (if x5 = 9 then (if (IntKind.u64.wrap (bt x1000 (wrap64 (x1001 + x5)))) > 1 then (aU.j2 k x3 x4 x5 (IntKind.u64.wrap (bt x1000 (wrap64 (x1001 + x5)))) true x1000 x1001 x1002) else (if x5 > 0 then (aU.j2 k x3 x4 x5 (IntKind.u64.wrap (bt x1000 (wrap64 (x1001 + x5)))) ((IntKind.u64.wrap (bt x1000 (wrap64 (x1001 + x5)))) == 0) x1000 x1001 x1002) else (aU.j2 k x3 x4 x5 (IntKind.u64.wrap (bt x1000 (wrap64 (x1001 + x5)))) false x1000 x1001 x1002))) else (if x5 > 0 then (aU.j2 k x3 x4 x5 (IntKind.u64.wrap (bt x1000 (wrap64 (x1001 + x5)))) ((IntKind.u64.wrap (bt x1000 (wrap64 (x1001 + x5)))) == 0) x1000 x1001 x1002) else (aU.j2 k x3 x4 x5 (IntKind.u64.wrap (bt x1000 (wrap64 (x1001 + x5)))) false x1000 x1001 x1002))) else (none)) else (none))) else (some (0, x1000, x1001, x1002))
def aU.j2 : Nat → Int → Int → Int → Int → Bool → ByteArray → Int → Int → Option (Int × ByteArray × Int × Int)
 | 0, _, _, _, _, _, _, _, _ => none
 | k + 1, x3, x4, x5, x6, x58, x1000, x1001, x1002 => if x58 = true then (some (0, x1000, x1001, 3)) else (if x6 < 128 then (some (IntKind.u64.wrap (x3 + (IntKind.u64.wrap ((Int.tmod x6 128) * x4))), x1000, wrap64 ((wrap64 (x1001 + x5)) + 1), x1002)) else (aU.l0 k (IntKind.u64.wrap (x3 + (IntKind.u64.wrap ((Int.tmod x6 128) * x4)))) (IntKind.u64.wrap (x4 * 128)) (wrap64 (x5 + 1)) x1000 x1001 x1002))
end
def aU.f (k : Nat) (s0_0 : ByteArray) (s0_1 : Int) (s0_2 : Int) : Option (Int × ByteArray × Int × Int) := aU.l0 k 0 1 0 s0_0 s0_1 s0_2
def gz.f (s0_0 : ByteArray) (s0_1 : Int) (s0_2 : Int) : Option (Int × ByteArray × Int × Int) := some (wrap64 ((s0_0.size : Int) - s0_1), s0_0, s0_1, s0_2)
end Go.Proofs.YtfgnjndfnijjoaaGreat.Print
end
section
namespace Go.Proofs.YtfgnjndfnijjoaaGreat.Print
open Go.RowKit Go.Proofs.YtfgnjndfnijjoaaGreatW.PrintWords Go.Proofs.YtfgnjndfnijjoaaGreatW.PrintLast Go.Proofs.YtfgnjndfnijjoaaGreatW.PrintMore
attribute [local go_sem] dJ dK eF eG cZ dc dL dM
attribute [local go_sem] bH
set_option linter.unusedVariables false
set_option linter.unusedSimpArgs false
attribute [local go_sem high] NP
def fj.j0 : Nat → Int → Bool → ByteArray → Int → Int → Option (ByteArray × ByteArray × Int × Int)
 | 0, _, _, _, _, _ => none
 | k + 1, x1, x27, x1000, x1001, x1002 => if x27 = true then (some ((⟨#[]⟩ : ByteArray), x1000, x1001, 2)) else (if x1002 = 0 then (if 0 ≤ (wrap64 ((wrap64 (x1001 + x1)) - x1)) then (if (wrap64 ((wrap64 (x1001 + x1)) - x1)) ≤ (wrap64 (x1001 + x1)) then (if (wrap64 (x1001 + x1)) ≤ (x1000.size : Int) then (some (x1000.extract ((wrap64 ((wrap64 (x1001 + x1)) - x1)) : Int).toNat ((wrap64 (x1001 + x1)) : Int).toNat, x1000, wrap64 (x1001 + x1), x1002)) else (none)) else (none)) else (none)) else (some ((⟨#[]⟩ : ByteArray), x1000, x1001, x1002)))
def fj.f (k : Nat) (s0_0 : ByteArray) (s0_1 : Int) (s0_2 : Int) (a1 : Int) : Option (ByteArray × ByteArray × Int × Int) := if s0_2 = 0 then (if a1 < 0 then (fj.j0 k a1 true s0_0 s0_1 s0_2) else (fj.j0 k a1 (decide (a1 > (wrap64 ((s0_0.size : Int) - s0_1)))) s0_0 s0_1 s0_2)) else (fj.j0 k a1 false s0_0 s0_1 s0_2)
def nk.f (k : Nat) (a0 : ByteArray) : Option (ByteArray × ByteArray × Int) := (aU.f k a0 0 0).bind fun sJ => (if sJ.2.2.2 = 0 then ((gz.f sJ.2.1 sJ.2.2.1 sJ.2.2.2).bind fun Ah => (if sJ.1 > (IntKind.u64.wrap (Ah.1)) then (some ((⟨#[]⟩ : ByteArray), (⟨#[]⟩ : ByteArray), 2)) else ((fj.f k Ah.2.1 Ah.2.2.1 Ah.2.2.2 (wrap64 (sJ.1))).bind fun Ai => (if 0 ≤ Ai.2.2.1 then (if Ai.2.2.1 ≤ (a0.size : Int) then (some (Ai.1, a0.extract (Ai.2.2.1 : Int).toNat a0.size, 0)) else (none)) else (none))))) else (some ((⟨#[]⟩ : ByteArray), (⟨#[]⟩ : ByteArray), sJ.2.2.2)))
end Go.Proofs.YtfgnjndfnijjoaaGreat.Print
end
section
namespace Go.Proofs.YtfgnjndfnijjoaaGreat.Print
open Go.RowKit Go.Proofs.YtfgnjndfnijjoaaGreatW.PrintWords Go.Proofs.YtfgnjndfnijjoaaGreatW.PrintLast Go.Proofs.YtfgnjndfnijjoaaGreatW.PrintMore
attribute [local go_sem] dJ dK eF eG cZ dc dL dM
attribute [local go_sem] bH
set_option linter.unusedVariables false
set_option linter.unusedSimpArgs false
mutual
def bp.j0 : Nat → List Int → Int → List Bool → Bool → Option (List Bool × Bool)
 | 0, _, _, _, _ => none
 | k + 1, x0, x1, x6, x21 => if x21 = true then (some (([] : List Bool), false)) else (bp.l0 k x0 x1 x6 0)
def bp.l0 : Nat → List Int → Int → List Bool → Int → Option (List Bool × Bool)
 | 0, _, _, _, _ => none
 | k + 1, x0, x1, x6, x7 => if x7 < (x0.length : Int) then (if 0 ≤ x7 then (if (rd x0 x7) < 0 then (bp.j2 k x0 x1 x6 x7 true) else (if (rd x0 x7) = 0 then (if x7 > 0 then (bp.j2 k x0 x1 x6 x7 true) else (bp.j2 k x0 x1 x6 x7 (decide ((rd x0 x7) > (wrap64 (x1 - (x6.length : Int))))))) else (bp.j2 k x0 x1 x6 x7 (decide ((rd x0 x7) > (wrap64 (x1 - (x6.length : Int)))))))) else (none)) else (some (x6, true))
def bp.j2 : Nat → List Int → Int → List Bool → Int → Bool → Option (List Bool × Bool)
 | 0, _, _, _, _, _ => none
 | k + 1, x0, x1, x6, x7, x54 => if x54 = true then (some (([] : List Bool), false)) else (bp.l1 k x0 x1 x6 x7 0)
def bp.l1 : Nat → List Int → Int → List Bool → Int → Int → Option (List Bool × Bool)
 | 0, _, _, _, _, _ => none
 | k + 1, x0, x1, x6, x7, x8 => if 0 ≤ x7 then (if x7 < (x0.length : Int) then (if x8 < (rd x0 x7) then (if x6.length < 140737488355328 then (bp.l1 k x0 x1 (x6 ++ [((Int.tmod x7 2) == 1)]) x7 (wrap64 (x8 + 1))) else (none)) else (bp.l0 k x0 x1 x6 (wrap64 (x7 + 1)))) else (none)) else (none)
end
def bp.f (k : Nat) (l0 : List Int) (a1 : Int) : Option (List Bool × Bool) := if a1 < 0 then (bp.j0 k l0 a1 ([] : List Bool) true) else (if (l0.length : Int) = 1 then (if 0 < (l0.length : Int) then (bp.j0 k l0 a1 ([] : List Bool) ((rd l0 0) == 0)) else (none)) else (bp.j0 k l0 a1 ([] : List Bool) false))
def eX.l0 : Nat → Int → List Int → Int → ByteArray → Int → Int → Option (List Bool × Int)
 | 0, _, _, _, _, _, _ => none
 | k + 1, x1, x7, x8, x668000, x668001, x668002 => (gz.f x668000 x668001 x668002).bind fun Aj => (if Aj.1 > 0 then ((aU.f k Aj.2.1 Aj.2.2.1 Aj.2.2.2).bind fun kR => (if kR.2.2.2 = 0 then (if kR.1 > (IntKind.u64.wrap (x8)) then (some (([] : List Bool), 5)) else (if kR.1 = 0 then (if (x7.length : Int) > 0 then (some (([] : List Bool), 5)) else (if x7.length < 17592186044416 then (eX.l0 k x1 (x7 ++ [wrap64 (kR.1)]) (wrap64 (x8 - (wrap64 (kR.1)))) kR.2.1 kR.2.2.1 kR.2.2.2) else (none))) else (if x7.length < 17592186044416 then (eX.l0 k x1 (x7 ++ [wrap64 (kR.1)]) (wrap64 (x8 - (wrap64 (kR.1)))) kR.2.1 kR.2.2.1 kR.2.2.2) else (none)))) else (some (([] : List Bool), kR.2.2.2)))) else ((bp.f k x7 x1).bind fun JO => (if JO.2 = true then (if x8 > 0 then (some (([] : List Bool), 5)) else (some (JO.1, 0))) else (some (([] : List Bool), 5)))))
def eX.f (k : Nat) (a0 : ByteArray) (a1 : Int) : Option (List Bool × Int) := if a1 < 0 then (some (([] : List Bool), 1)) else (if a1 > 4096 then (some (([] : List Bool), 10)) else (eX.l0 k a1 ([] : List Int) a1 a0 0 0))
def iQ.f (s0_0 : ByteArray) (s0_1 : Int) (s0_2 : Int) : Option (Int × ByteArray × Int × Int) := if s0_2 = 0 then ((gz.f s0_0 s0_1 s0_2).bind fun pU => (if pU.1 > 0 then (some (5, pU.2.1, pU.2.2.1, pU.2.2.2)) else (some (pU.2.2.2, pU.2.1, pU.2.2.1, pU.2.2.2)))) else (some (s0_2, s0_0, s0_1, s0_2))
end Go.Proofs.YtfgnjndfnijjoaaGreat.Print
end
section
namespace Go.Proofs.YtfgnjndfnijjoaaGreat.Print
open Go.RowKit Go.Proofs.YtfgnjndfnijjoaaGreatW.PrintWords Go.Proofs.YtfgnjndfnijjoaaGreatW.PrintLast Go.Proofs.YtfgnjndfnijjoaaGreatW.PrintMore
attribute [local go_sem] dJ dK eF eG cZ dc dL dM
attribute [local go_sem] bH
set_option linter.unusedVariables false
set_option linter.unusedSimpArgs false
def mg.f (a0 : Int) : Option (Bool) := if (Int.tmod (a0 / 4503599627370496) 2048) = 2047 then (if (Int.tmod a0 4503599627370496) = 0 then (some true) else ((pF.f).bind fun Rw => (some (a0 == Rw)))) else (some true)
def iM.f (a0 : Int) : Option Int := if 0 ≤ a0 ∧ a0 < 18446744073709551616 then some (dD a0.toNat : Nat) else none
theorem M7 (s : Bool) : (9223372036854775808 ≤ Fl.inf s) = (s = true) := by cases s <;> simp [Fl.inf]
theorem yO {x : Nat} {s : Bool} (k3 : (9223372036854775808 ≤ x) = (s = true)) : decide ((x : Int) ≥ 9223372036854775808) = s := by
 cases s
 · exact decide_eq_false (fun h => absurd (k3 ▸ (show 9223372036854775808 ≤ x by omega)) (by decide))
 ·
  have h : 9223372036854775808 ≤ x := by rw [k3]
  exact decide_eq_true (by omega)
set_option maxHeartbeats 8000000 in
set_option maxRecDepth 100000 in
theorem iM.nan (x : Nat) (w : World) (hx : x < 18446744073709551616) (hn : 9218868437227405312 < x % 9223372036854775808) (f1 : (x : Int) / 4503599627370496 % 2048 = 2047) (f2 : (x : Int) % 4503599627370496 ≠ 0) :
    Calls Tryz.prog 141 #[.int .u64 (x : Int)] w fun e_ w' => ∃ b0_ : Nat, e_ = .returned (.float .f64 b0_) ∧ FB b0_ (dD x : Nat) ∧ Below w.heap.size w w' := by
 have hc : dD x = 9221120237041090560 := by unfold dD; rw [if_pos hn]
 rw [hc]; have d1 : decide ((x : Int) / 4503599627370496 % 2048 = 2047) = true := decide_eq_true f1; have d2 : decide ((x : Int) % 4503599627370496 = 0) = false := decide_eq_false f2; have q := xF Tryz.prog 49; go_enter Tryz.func141, Tryz.ntmps141
 go_wp2
 go_ret
 exact ⟨_, rfl, AH w, oG (Below.refl _ _)⟩
set_option maxHeartbeats 8000000 in
set_option maxRecDepth 100000 in
theorem iM.inf (x : Nat) (w : World) (hx : x < 18446744073709551616) (s : Bool) (hz : x = Fl.inf s) (f1 : (x : Int) / 4503599627370496 % 2048 = 2047) (f2 : (x : Int) % 4503599627370496 = 0) :
    Calls Tryz.prog 141 #[.int .u64 (x : Int)] w fun e_ w' => ∃ b0_ : Nat, e_ = .returned (.float .f64 b0_) ∧ FB b0_ (dD x : Nat) ∧ Below w.heap.size w w' := by
 have hc : dD x = x := by unfold dD; rw [hz]; cases s <;> rfl
 rw [hc]; have d1 : decide ((x : Int) / 4503599627370496 % 2048 = 2047) = true := decide_eq_true f1; have d2 : decide ((x : Int) % 4503599627370496 = 0) = true := decide_eq_true f2; have q : ∀ W, (binOp .quo 49 (.float .f64 4607182418800017408) (.float .f64 0)).run Tryz.prog W = .ok (.float .f64 (Fl.inf false)) W := fun W => run_float_arith W .quo 49 .f64 _ _ _ (by decide)
 have hng := oW Tryz.prog; have k3 : (9223372036854775808 ≤ x) = (s = true) := by rw [hz]; exact M7 s
 have HZ := Aside0.mk hz
 have hng : ∀ W, (Op.unary .neg (.float .f64 (Fl.inf false))).run Tryz.prog W = .ok (.float .f64 (Fl.inf true)) W := by
  have h : Op.negFloat .f64 (Fl.inf false) = Fl.inf true := by decide
  intro W; simp only [Op.unary, h, Sem.run_pure]
 cases s
 ·
  have k3' : decide ((x : Int) ≥ 9223372036854775808) = false := yO k3; clear hz k3; go_enter Tryz.func141, Tryz.ntmps141
  go_wp2_with (first | (go_at_call 115; (with_reducible refine (ju _).mono ?_); rintro e' w1 ⟨rfl, rfl⟩))
  go_ret
  exact ⟨_, rfl, by rw [HZ.out]; exact vY false, Below.refl _ _⟩
 ·
  have k3' : decide ((x : Int) ≥ 9223372036854775808) = true := yO k3; clear hz k3; go_enter Tryz.func141, Tryz.ntmps141
  go_wp2_with (first | (go_at_call 115; (with_reducible refine (ju _).mono ?_); rintro e' w1 ⟨rfl, rfl⟩))
  go_ret
  exact ⟨_, rfl, by rw [HZ.out]; exact vY true, Below.refl _ _⟩
set_option maxHeartbeats 8000000 in
set_option maxRecDepth 100000 in
theorem iM.fin (x : Nat) (w : World) (hx : x < 18446744073709551616) (s : Bool) (D : Nat) (N : Int) (hD : D < 9007199254740992) (hN1 : -1074 ≤ N) (hN2 : N ≤ 971) (hz : x = Ieee.double.word s (Fl.R0 D N)) (hle : Fl.R0 D N ≤ 9218868437227405312)
    (hform : ((x : Int) / 4503599627370496 % 2048 = 0 ∧ D = (x % 4503599627370496 : Nat) ∧ N = -1074) ∨ (0 < (x : Int) / 4503599627370496 % 2048 ∧ (x : Int) / 4503599627370496 % 2048 < 2047 ∧ (D : Int) = x % 4503599627370496 + 4503599627370496 ∧ N = (x : Int) / 4503599627370496 % 2048 - 1075)) :
    Calls Tryz.prog 141 #[.int .u64 (x : Int)] w fun e_ w' => ∃ b0_ : Nat, e_ = .returned (.float .f64 b0_) ∧ FB b0_ (dD x : Nat) ∧ Below w.heap.size w w' := by
  have hc : dD x = x := by rw [hz]; exact Fl.mT s hle
  rw [hc]
  have HZ := Aside0.mk hz
  have k3 := CS s (r := Fl.R0 D N) (by omega)
  rw [← hz] at k3
  have hfb : FB x (x : Nat) := by rw [hz]; exact xG s hle
  have HFB := Aside0.mk hfb
  have hng : ∀ W, (Op.unary .neg (.float .f64 (Fl.R0 D N))).run Tryz.prog W = .ok (.float .f64 (Ieee.double.word true (Fl.R0 D N))) W := fun W => by
    have := oW Tryz.prog W false (r := Fl.R0 D N) (by omega)
    rwa [Fl.bX] at this
  have HNG := Aside0.mk hng
  have fa := Bw hD
  have d1 : ((x : Int) / 4503599627370496 % 2048 == 2047) = false := beq_eq_false_iff_ne.2 (by omega)
  have hsg : decide ((x : Int) ≥ 9223372036854775808) = s := yO k3
  have hend : Aside0 (FB (if s then Ieee.double.word true (Fl.R0 D N) else Fl.R0 D N) (x : Nat)) := ⟨by
    cases s
    · rw [if_neg (by decide), ← Fl.bX (Fl.R0 D N), ← hz]
      exact hfb
    · rw [if_pos rfl, ← hz]
      exact hfb⟩
  have hN3 : Aside0 (∃ n, n = -N) := ⟨⟨_, rfl⟩⟩
  clear hz k3 hfb hle hng
  rcases hform with ⟨f1, f2, f3⟩ | ⟨f1, f1', f2, f3⟩
  · have d3 : decide ((x : Int) / 4503599627370496 % 2048 > 0) = false := decide_eq_false (by omega)
    have f2' : (x : Int) % 4503599627370496 = (D : Int) := by omega
    have hn : (1074 : Int) = -N := by omega
    have hNN : Aside0 ((1074 : Int) = -N) := ⟨hn⟩
    clear f2 f3
    go_enter Tryz.func141, Tryz.ntmps141
    go_wp2
    rw [hn]
    clear f1 f2' d1 d3 fa hn
    go_loopg [5, 7] 3000 (fun kq v5 v7 w' => ∃ (i : Int), v5 = .float .f64 (Fl.R0 D (-i)) ∧ v7 = .int .i64 i ∧ Aside0 (0 ≤ i ∧ -N - i < kq ∧ (i = 0 ∨ i ≤ -N)) ∧ Aside0 (w' = w))
    case atStart => exact ⟨0, by rfl, by rfl, ⟨by omega⟩, ⟨rfl⟩⟩
    case round =>
      obtain ⟨i, rfl, rfl, HK, HW⟩ := hrel
      have e1 := HW.out
      subst e1
      have hk := HK.out
      by_cases c1 : i < -N
      · cases gk with
        | zero => exact absurd c1 (by omega)
        | succ k2 =>
          have s1 : decide (i < -N) = true := decide_eq_true c1
          have m1 := oY hD (x := -i) (k := -1) (by omega) (by omega) (by omega) (by omega) (by omega)
          rw [qj] at m1
          have rw2 : IntKind.i64.wrap (i + 1) = i + 1 := by rw [IntKind.wrap_i64]; omega
          go_wp2
          go_roundg k2
          case measure => omega
          case rel => exact ⟨i + 1, by rw [show -(i + 1) = -i + -1 by omega], by first | rfl | simp [goInt, rw2], ⟨by omega⟩, ⟨rfl⟩⟩
      · have s1 : decide (i < -N) = false := decide_eq_false c1
        obtain ⟨x0, hx0⟩ : ∃ x0, x0 = -i := ⟨_, rfl⟩
        rw [← hx0]
        have hx1 : Aside0 (x0 = if N ≤ 0 then N else 0) := ⟨by split <;> omega⟩
        clear hx0
        have rwn : IntKind.i64.wrap (-(-N)) = N := by rw [IntKind.wrap_i64]; omega
        go_wp2
        go_loopg [5, 8] 3000 (fun kq v5 v8 w' => ∃ (j : Int), v5 = .float .f64 (Fl.R0 D (x0 + j)) ∧ v8 = .int .i64 j ∧ Aside0 (0 ≤ j ∧ N - j < kq ∧ (j = 0 ∨ j ≤ N)) ∧ Aside0 (w' = wr))
        case atStart => exact ⟨0, by rw [Int.add_zero], by rfl, ⟨by omega⟩, ⟨rfl⟩⟩
        case round =>
            clear HK HW hk c1 s1
            obtain ⟨j, rfl, rfl, HK, HW⟩ := hrel
            have e1 := HW.out
            subst e1
            have hk := HK.out
            have h1 := hx1.out
            by_cases c1 : j < N
            · cases gk with
              | zero => exact absurd c1 (by omega)
              | succ k2 =>
                have s1 : decide (j < N) = true := decide_eq_true c1
                have m1 := oY hD (x := x0 + j) (k := 1) (by split at h1 <;> omega) (by split at h1 <;> omega) (by omega) (by omega) (by split at h1 <;> omega)
                rw [kE] at m1
                have rw2 : IntKind.i64.wrap (j + 1) = j + 1 := by rw [IntKind.wrap_i64]; omega
                clear h1
                go_wp2
                go_roundg k2
                case measure => omega
                case rel => exact ⟨j + 1, by rw [show x0 + (j + 1) = x0 + j + 1 by omega], by first | rfl | simp [goInt, rw2], ⟨by omega⟩, ⟨rfl⟩⟩
            · have s1 : decide (j < N) = false := decide_eq_false c1
              have hxN : x0 + j = N := by split at h1 <;> omega
              rw [hxN]
              clear h1 hxN
              have hng := HNG.out
              have he := hend.out
              cases s
              · go_wp2_with (first | (go_at_call 115; (with_reducible refine (ju _).mono ?_); rintro e' w1 ⟨rfl, rfl⟩))
                go_ret
                exact ⟨_, rfl, by (first | rw [if_pos trivial] at he | rw [if_pos rfl] at he | rw [if_neg (by decide)] at he); exact he, Below.refl _ _⟩
              · go_wp2_with (first | (go_at_call 115; (with_reducible refine (ju _).mono ?_); rintro e' w1 ⟨rfl, rfl⟩))
                go_ret
                exact ⟨_, rfl, by (first | rw [if_pos trivial] at he | rw [if_pos rfl] at he | rw [if_neg (by decide)] at he); exact he, Below.refl _ _⟩
  · have d3 : decide ((x : Int) / 4503599627370496 % 2048 > 0) = true := decide_eq_true f1
    have f2' : (x : Int) % 4503599627370496 + 4503599627370496 = (D : Int) := by omega
    have hw : IntKind.u64.wrap ((D : Int)) = (D : Int) := by rw [IntKind.wrap_u64]; omega
    have hn' : 1075 - (x : Int) / 4503599627370496 % 2048 = -N := by omega
    clear f2 f3
    go_enter Tryz.func141, Tryz.ntmps141
    go_wp2
    clear f1 f1' f2' d1 d3 fa hw hn'
    go_loopg [5, 7] 3000 (fun kq v5 v7 w' => ∃ (i : Int), v5 = .float .f64 (Fl.R0 D (-i)) ∧ v7 = .int .i64 i ∧ Aside0 (0 ≤ i ∧ -N - i < kq ∧ (i = 0 ∨ i ≤ -N)) ∧ Aside0 (w' = w))
    case atStart => exact ⟨0, by rfl, by rfl, ⟨by omega⟩, ⟨rfl⟩⟩
    case round =>
      obtain ⟨i, rfl, rfl, HK, HW⟩ := hrel
      have e1 := HW.out
      subst e1
      have hk := HK.out
      by_cases c1 : i < -N
      · cases gk with
        | zero => exact absurd c1 (by omega)
        | succ k2 =>
          have s1 : decide (i < -N) = true := decide_eq_true c1
          have m1 := oY hD (x := -i) (k := -1) (by omega) (by omega) (by omega) (by omega) (by omega)
          rw [qj] at m1
          have rw2 : IntKind.i64.wrap (i + 1) = i + 1 := by rw [IntKind.wrap_i64]; omega
          go_wp2
          go_roundg k2
          case measure => omega
          case rel => exact ⟨i + 1, by rw [show -(i + 1) = -i + -1 by omega], by first | rfl | simp [goInt, rw2], ⟨by omega⟩, ⟨rfl⟩⟩
      · have s1 : decide (i < -N) = false := decide_eq_false c1
        obtain ⟨x0, hx0⟩ : ∃ x0, x0 = -i := ⟨_, rfl⟩
        rw [← hx0]
        have hx1 : Aside0 (x0 = if N ≤ 0 then N else 0) := ⟨by split <;> omega⟩
        clear hx0
        have rwn : IntKind.i64.wrap (-(-N)) = N := by rw [IntKind.wrap_i64]; omega
        go_wp2
        go_loopg [5, 8] 3000 (fun kq v5 v8 w' => ∃ (j : Int), v5 = .float .f64 (Fl.R0 D (x0 + j)) ∧ v8 = .int .i64 j ∧ Aside0 (0 ≤ j ∧ N - j < kq ∧ (j = 0 ∨ j ≤ N)) ∧ Aside0 (w' = wr))
        case atStart => exact ⟨0, by rw [Int.add_zero], by rfl, ⟨by omega⟩, ⟨rfl⟩⟩
        case round =>
            clear HK HW hk c1 s1
            obtain ⟨j, rfl, rfl, HK, HW⟩ := hrel
            have e1 := HW.out
            subst e1
            have hk := HK.out
            have h1 := hx1.out
            by_cases c1 : j < N
            · cases gk with
              | zero => exact absurd c1 (by omega)
              | succ k2 =>
                have s1 : decide (j < N) = true := decide_eq_true c1
                have m1 := oY hD (x := x0 + j) (k := 1) (by split at h1 <;> omega) (by split at h1 <;> omega) (by omega) (by omega) (by split at h1 <;> omega)
                rw [kE] at m1
                have rw2 : IntKind.i64.wrap (j + 1) = j + 1 := by rw [IntKind.wrap_i64]; omega
                clear h1
                go_wp2
                go_roundg k2
                case measure => omega
                case rel => exact ⟨j + 1, by rw [show x0 + (j + 1) = x0 + j + 1 by omega], by first | rfl | simp [goInt, rw2], ⟨by omega⟩, ⟨rfl⟩⟩
            · have s1 : decide (j < N) = false := decide_eq_false c1
              have hxN : x0 + j = N := by split at h1 <;> omega
              rw [hxN]
              clear h1 hxN
              have hng := HNG.out
              have he := hend.out
              cases s
              · go_wp2_with (first | (go_at_call 115; (with_reducible refine (ju _).mono ?_); rintro e' w1 ⟨rfl, rfl⟩))
                go_ret
                exact ⟨_, rfl, by (first | rw [if_pos trivial] at he | rw [if_pos rfl] at he | rw [if_neg (by decide)] at he); exact he, Below.refl _ _⟩
              · go_wp2_with (first | (go_at_call 115; (with_reducible refine (ju _).mono ?_); rintro e' w1 ⟨rfl, rfl⟩))
                go_ret
                exact ⟨_, rfl, by (first | rw [if_pos trivial] at he | rw [if_pos rfl] at he | rw [if_neg (by decide)] at he); exact he, Below.refl _ _⟩
def fV.l0 : Nat → Int → List (Int) → Int → Int → ByteArray → Int → Int → Option ((List (Int)) × Int)
 | 0, _, _, _, _, _, _, _ => none
 | k + 1, x1, x7, x8, x9, x692000, x692001, x692002 => if x9 < x1 then ((aU.f k x692000 x692001 x692002).bind fun uC => ((gB.f k uC.1).bind fun IU => (if uC.2.2.2 = 0 then ((mg.f (Go.bits .xor .u64 IU x8)).bind fun Rx => (if Rx = true then ((iM.f (Go.bits .xor .u64 IU x8)).bind fun Ry => (if x7.length < 17592186044416 then (fV.l0 k x1 (x7 ++ [Ry]) (Go.bits .xor .u64 IU x8) (wrap64 (x9 + 1)) uC.2.1 uC.2.2.1 uC.2.2.2) else (none))) else (some (([] : List (Int)), 5)))) else (some (([] : List (Int)), uC.2.2.2))))) else ((iQ.f x692000 x692001 x692002).bind fun Ak => (if Ak.1 = 0 then (some (x7, 0)) else ((iQ.f Ak.2.1 Ak.2.2.1 Ak.2.2.2).bind fun PK => (some (([] : List (Int)), PK.1)))))
def fV.f (k : Nat) (a0 : ByteArray) (a1 : Int) : Option ((List (Int)) × Int) := if a1 < 0 then (some (([] : List (Int)), 1)) else (if a1 > (a0.size : Int) then (some (([] : List (Int)), 2)) else (fV.l0 k a1 ([] : List (Int)) 0 0 a0 0 0))
def fK.l0 : Nat → List Bool → Int → Int → Option (Int)
 | 0, _, _, _ => none
 | k + 1, x0, x3, x4 => if x4 < (x0.length : Int) then (if 0 ≤ x4 then (if fW false x0 x4 = true then (fK.l0 k x0 (wrap64 (x3 + 1)) (wrap64 (x4 + 1))) else (fK.l0 k x0 x3 (wrap64 (x4 + 1)))) else (none)) else (some x3)
def fK.f (k : Nat) (l0 : List Bool) : Option (Int) := fK.l0 k l0 0 0
end Go.Proofs.YtfgnjndfnijjoaaGreat.Print
end
section
namespace Go.Proofs.YtfgnjndfnijjoaaGreat.Print
open Go.RowKit Go.Proofs.YtfgnjndfnijjoaaGreatW.PrintWords Go.Proofs.YtfgnjndfnijjoaaGreatW.PrintLast Go.Proofs.YtfgnjndfnijjoaaGreatW.PrintMore
attribute [local go_sem] dJ dK eF eG cZ dc dL dM
attribute [local go_sem] bH
set_option linter.unusedVariables false
set_option linter.unusedSimpArgs false
mutual
def cM.l0 : Nat → List Bool → List (Int) → Int → Option ((List (Int)) × Int)
 | 0, _, _, _ => none
 | k + 1, x9, x10, x11 => if x11 < (x10.length : Int) then (if 0 ≤ x11 then ((dx.f (jl x10 x11)).bind fun Rz => (if Rz = 0 then (some (([] : List (Int)), 5)) else (cM.l0 k x9 x10 (wrap64 (x11 + 1))))) else (none)) else (cM.l1 k x9 x10 ([] : List (Int)) 0 0)
def cM.l1 : Nat → List Bool → List (Int) → List (Int) → Int → Int → Option ((List (Int)) × Int)
 | 0, _, _, _, _, _ => none
 | k + 1, x9, x10, x12, x13, x14 => if x14 < (x9.length : Int) then (if 0 ≤ x14 then (if fW false x9 x14 = true then (if 0 ≤ x13 then (if x13 < (x10.length : Int) then (if x12.length < 17592186044416 then (cM.l1 k x9 x10 (x12 ++ [jl x10 x13]) (wrap64 (x13 + 1)) (wrap64 (x14 + 1))) else (none)) else (none)) else (none)) else (if x12.length < 17592186044416 then (cM.l1 k x9 x10 (x12 ++ [(0 : Int)]) x13 (wrap64 (x14 + 1))) else (none))) else (none)) else (some (x12, 0))
end
def cM.f (k : Nat) (a0 : ByteArray) (a1 : Int) : Option ((List (Int)) × Int) := (nk.f k a0).bind fun Al => (if Al.2.2 = 0 then ((eX.f k Al.1 a1).bind fun Am => (if Am.2 = 0 then ((fK.f k Am.1).bind fun RA => ((fV.f k Al.2.1 RA).bind fun Ff => (if Ff.2 = 0 then (cM.l0 k Am.1 Ff.1 0) else (some (([] : List (Int)), Ff.2))))) else (some (([] : List (Int)), Am.2)))) else (some (([] : List (Int)), Al.2.2)))
end Go.Proofs.YtfgnjndfnijjoaaGreat.Print
end
section
namespace Go.Proofs.YtfgnjndfnijjoaaGreat.Print
open Go.RowKit Go.Proofs.YtfgnjndfnijjoaaGreatW.PrintWords Go.Proofs.YtfgnjndfnijjoaaGreatW.PrintLast Go.Proofs.YtfgnjndfnijjoaaGreatW.PrintMore
attribute [local go_sem] dJ dK eF eG cZ dc dL dM
attribute [local go_sem] bH
set_option linter.unusedVariables false
set_option linter.unusedSimpArgs false
mutual
def cH.l0 : Nat → Int → List Int → ByteArray → Int → Int → Option (List Int × Int)
 | 0, _, _, _, _, _ => none
 | k + 1, x1, x7, x763000, x763001, x763002 => (gz.f x763000 x763001 x763002).bind fun Ap => (if Ap.1 > 0 then ((aU.f k Ap.2.1 Ap.2.2.1 Ap.2.2.2).bind fun pV => ((aU.f k pV.2.1 pV.2.2.1 pV.2.2.2).bind fun jf => (if jf.2.2.2 = 0 then (if jf.1 = 0 then (cH.j1 k x1 x7 pV.1 jf.1 true jf.2.1 jf.2.2.1 jf.2.2.2) else (if jf.1 > (IntKind.u64.wrap (wrap64 (x1 - (x7.length : Int)))) then (cH.j1 k x1 x7 pV.1 jf.1 true jf.2.1 jf.2.2.1 jf.2.2.2) else (if (x7.length : Int) > 0 then (if 0 ≤ (wrap64 ((x7.length : Int) - 1)) then (if (wrap64 ((x7.length : Int) - 1)) < (x7.length : Int) then (cH.j1 k x1 x7 pV.1 jf.1 ((rd x7 (wrap64 ((x7.length : Int) - 1))) == pV.1) jf.2.1 jf.2.2.1 jf.2.2.2) else (none)) else (none)) else (cH.j1 k x1 x7 pV.1 jf.1 false jf.2.1 jf.2.2.1 jf.2.2.2)))) else (some (([] : List Int), jf.2.2.2))))) else (if (x7.length : Int) < x1 then (some (([] : List Int), 5)) else (some (x7, 0))))
def cH.j1 : Nat → Int → List Int → Int → Int → Bool → ByteArray → Int → Int → Option (List Int × Int)
 | 0, _, _, _, _, _, _, _, _ => none
 | k + 1, x1, x7, x8, x9, x59, x763000, x763001, x763002 => if x59 = true then (some (([] : List Int), 5)) else (cH.l1 k x1 x7 x8 x9 0 x763000 x763001 x763002)
def cH.l1 : Nat → Int → List Int → Int → Int → Int → ByteArray → Int → Int → Option (List Int × Int)
 | 0, _, _, _, _, _, _, _, _ => none
 | k + 1, x1, x7, x8, x9, x10, x763000, x763001, x763002 => if x10 < x9 then (if x7.length < 17592186044416 then (cH.l1 k x1 (x7 ++ [x8]) x8 x9 (IntKind.u64.wrap (x10 + 1)) x763000 x763001 x763002) else (none)) else (cH.l0 k x1 x7 x763000 x763001 x763002)
end
end Go.Proofs.YtfgnjndfnijjoaaGreat.Print
end
namespace Go.Proofs.YtfgnjndfnijjoaaGreat.Print
end Go.Proofs.YtfgnjndfnijjoaaGreat.Print
section
namespace Go.Proofs.YtfgnjndfnijjoaaGreat.Print
open Go.RowKit Go.Proofs.YtfgnjndfnijjoaaGreatW.PrintWords Go.Proofs.YtfgnjndfnijjoaaGreatW.PrintLast Go.Proofs.YtfgnjndfnijjoaaGreatW.PrintMore
attribute [local go_sem] dJ dK eF eG cZ dc dL dM
attribute [local go_sem] bH
set_option linter.unusedVariables false
set_option linter.unusedSimpArgs false
theorem iX.read {α : Type} {d : Kd α} {e base : Nat} {w : World} {ok : Nat → Prop} {A : Option Addr} {c : Nat} {xs : List α} (h : d.R e w base ok (.slice A xs.length c) xs) : iX w (fun W => Kd.C d W A xs.length xs) := fun _ hW => Kd.fc (Kd.av h).2.2 hW
end Go.Proofs.YtfgnjndfnijjoaaGreat.Print
end
namespace Go.Proofs.YtfgnjndfnijjoaaGreat.Print
end Go.Proofs.YtfgnjndfnijjoaaGreat.Print
section
namespace Go.Proofs.YtfgnjndfnijjoaaGreat.Print
open Go.RowKit Go.Proofs.YtfgnjndfnijjoaaGreatW.PrintWords Go.Proofs.YtfgnjndfnijjoaaGreatW.PrintLast Go.Proofs.YtfgnjndfnijjoaaGreatW.PrintMore
attribute [local go_sem] dJ dK eF eG cZ dc dL dM
attribute [local go_sem] bH
set_option linter.unusedVariables false
set_option linter.unusedSimpArgs false
mutual
def aQ.j0 : Nat → List (Int) → ByteArray → Int → Bool → Option (Bool)
 | 0, _, _, _, _ => none
 | k + 1, x0, x1, x2, x21 => if x21 = true then ((cj.f k).bind fun IV => (some IV)) else ((bg.f k x0).bind fun qc => ((bI.f k qc (x0.length : Int)).bind fun JP => (if JP.2 = 0 then ((aK.f k JP.1 x0).bind fun Fg => (aQ.j1 k x0 x1 x2 qc (!Fg))) else (aQ.j1 k x0 x1 x2 qc true))))
def aQ.j1 : Nat → List (Int) → ByteArray → Int → ByteArray → Bool → Option (Bool)
 | 0, _, _, _, _, _ => none
 | k + 1, x0, x1, x2, x7, x39 => if x39 = true then (none) else (if x2 = (x0.length : Int) then (aQ.j2 k x1 x2) else ((bI.f k x7 x2).bind fun PL => (if PL.2 = 0 then (none) else (aQ.j2 k x1 x2))))
def aQ.j2 : Nat → ByteArray → Int → Option (Bool)
 | 0, _, _ => none
 | k + 1, x1, x2 => (bI.f k x1 x2).bind fun Aq => (if Aq.2 = 0 then (if (Aq.1.length : Int) = x2 then ((bg.f k Aq.1).bind fun BP => (if BP.toList = x1.toList then ((cj.f k).bind fun IW => (some IW)) else (none))) else (none)) else (if (Aq.1.length : Int) = 0 then ((cj.f k).bind fun IX => (some IX)) else (none)))
end
def aQ.f (k : Nat) (l0 : List (Int)) (a1 : ByteArray) (a2 : Int) : Option (Bool) := if (l0.length : Int) > 100 then (aQ.j0 k l0 a1 a2 true) else (aQ.j0 k l0 a1 a2 (decide ((a1.size : Int) > 500)))
set_option maxHeartbeats 8000000 in
set_option maxRecDepth 100000 in
theorem aQ.calls (k : Nat) (A0 : Option Addr) (c0 : Nat) (l0 : List (Int)) (a1 : ByteArray) (a2 : Int) (r : Bool) (w : World) (hr0 : Kd.C Kd.flt w A0 l0.length l0) (hc0 : l0.length ≤ c0) (h : aQ.f k l0 a1 a2 = some r) :
 Calls Tryz.prog 6 #[.slice A0 l0.length c0, .string a1, .int .i64 a2] w fun e w' => e = .returned (.bool r) ∧ Below w.heap.size w w' := by
 have HR0 := Aside0.mk hr0; have HC0 := Aside0.mk hc0; clear hr0 hc0; have HB := Aside0.mk (Below.refl w.heap.size w); have H := h; unfold aQ.f at H; clear h; have HC4 := Aside0.mk H; clear H; go_enter Tryz.func6, Tryz.ntmps6
 go_upto_region 1 with (fail)
 go_cut [21] (fun v21 wc => ∃ (kq : Nat) (Ar : Bool), v21 = .bool Ar ∧ Aside0 (aQ.j0 kq l0 a1 a2 Ar = some r) ∧ Aside0 (kq ≤ k) ∧ Aside0 (Below w.heap.size w wc))
 case first =>
  have H := HC4.out; clear HC4
  by_cases c5 : (l0.length : Int) > 100
  ·
   rw [if_pos c5] at H; have fk : decide (100 < (l0.length : Int)) = true := decide_eq_true c5; have pZ : decide (100 < l0.length) = true := decide_eq_true (by omega); clear c5
   (first | rw [fk] | (simp only [bN, bR]; rw [fk]) | skip)
   have H' := Aside0.mk H; clear H
   go_wp2
   go_meet
   case rel => exact ⟨_, (true), sz, H', ⟨by first | omega | exact Nat.le_refl _⟩, ⟨hz HB.out⟩⟩
  ·
   rw [if_neg c5] at H; have fk : decide (100 < (l0.length : Int)) = false := decide_eq_false c5; have pZ : decide (100 < l0.length) = false := decide_eq_false (by omega); clear c5
   (first | rw [fk] | (simp only [bN, bR]; rw [fk]) | skip)
   have H' := Aside0.mk H; clear H
   go_wp2
   go_meet
   case rel => exact ⟨_, (decide ((a1.size : Int) > 500)), sz, H', ⟨by first | omega | exact Nat.le_refl _⟩, ⟨hz HB.out⟩⟩
 case rest =>
  clear HC4
  try clear p2
  try clear c5
  try clear fk
  try clear pZ
  obtain ⟨kq, Ar, rfl, HA, HJ3, HB⟩ := hcut
  cases kq with
  | zero => exact absurd HA.out (by simp [aQ.j0])
  | succ kj3 =>
   have H := HA.out; clear HA; simp only [aQ.j0] at H
   by_cases c6 : Ar = true
   ·
    subst c6; rw [if_pos rfl] at H; obtain ⟨IV, A7, H⟩ := bnz H; (try dsimp only at H); obtain rfl := Option.some.inj H
    go_wp2_with (first | ((with_reducible refine ak (f := 10) rfl ?_); refine aD (some 22) rfl rfl Tryz.func10 (by kernel_rfl) rfl #[] rfl mz ?_; (with_reducible refine (cj.calls kj3  IV _ A7.out).mono ?_); rintro e w8 ⟨rfl, hb⟩; refine ⟨_, rfl, ?_⟩; replace HB := sb HB hb; (try clear hb); (try clear hb2); (try clear hk); (try clear hi)))
    go_ret
    exact ⟨ez, hz HB.out⟩
   ·
    replace c6 := Bool.eq_false_iff.mpr c6; subst c6; rw [if_neg (show ¬ (false = true) by decide)] at H; obtain ⟨qc, A9, H⟩ := bnz H; (try dsimp only at H); obtain ⟨⟨M8, yP⟩, A10, H⟩ := bnz H; (try dsimp only at H); have IY := Aside0.mk H; clear H
    go_upto_region 5 with (first | ((with_reducible refine ak (f := 16) rfl ?_); refine aD (some 24) rfl rfl Tryz.func16 (by kernel_rfl) rfl #[.slice A0 l0.length c0] rfl mz ?_; (with_reducible refine (bg.calls kj3 _ _ l0 qc _ ?side1 ?side2 A9.out).mono ?_); (case side1 => repeat (first | exact (Kd.fc HR0.out HB.out) | (with_reducible refine Kd.bO ?_ _) | (with_reducible refine Kd.bQ ?_ _) | (with_reducible refine Kd.bZ ?_))); (case side2 => exact HC0.out); rintro e w12 ⟨rfl, hb⟩; refine ⟨_, rfl, ?_⟩; replace HB := sb HB hb; (try clear hb); (try clear hb2); (try clear hk); (try clear hi)) | ((with_reducible refine ak (f := 23) rfl ?_); refine aD (some 29) rfl rfl Tryz.func23 (by kernel_rfl) rfl #[.string qc, .int .i64 (l0.length : Int)] rfl mz ?_; (with_reducible refine (bI.calls kj3 qc (l0.length : Int) M8 yP _ A10.out).mono ?_); rintro e w13 ⟨v884, rfl, ho0, hb⟩; refine ⟨_, rfl, ?_⟩; have wW := am (Kd.cV ho0 (ai (hz HB.out))); replace HB := sb HB hb; (try clear hb); (try clear hb2); (try clear hk); (try clear hi); (try clear ho0)))
    (try simp only [Act.put, List.setIfInBounds_toArray, List.set_cons_zero, List.set_cons_succ])
    go_cut [39] (fun v39 wc => ∃ (kq : Nat) (wX : Bool), v39 = .bool wX ∧ Aside0 (aQ.j1 kq l0 a1 a2 qc wX = some r) ∧ Aside0 (kq ≤ kj3) ∧ Aside0 (Below w.heap.size w wc))
    case first =>
     have H := IY.out; clear IY
     by_cases c14 : yP = 0
     ·
      rw [if_pos c14] at H; have pT : (yP == 0) = true := beq_iff_eq.mpr c14; have Ag : (yP != 0) = false := bne_eq_false_iff_eq.mpr c14; clear c14
      (first | rw [pT] | (simp only [bN, bR]; rw [pT]) | skip)
      obtain ⟨Fg, A15, H⟩ := bnz H; (try dsimp only at H); have H' := Aside0.mk H; clear H; obtain ⟨si, sj, Bh⟩ := Kd.bu wW.out; subst Bh
      go_wp2_with (first | (go_at_call 26; (with_reducible refine (aK.calls kj3 _ _ M8 _ _ l0 Fg _ ?side1 ?side2 ?side3 ?side4 A15.out).mono ?_); (case side1 => repeat (first | exact (Kd.av wW.out).2.2 | (with_reducible refine Kd.bO ?_ _) | (with_reducible refine Kd.bQ ?_ _) | (with_reducible refine Kd.bZ ?_))); (case side2 => exact (Kd.av wW.out).2.1); (case side3 => repeat (first | exact (Kd.fc HR0.out HB.out) | (with_reducible refine Kd.bO ?_ _) | (with_reducible refine Kd.bQ ?_ _) | (with_reducible refine Kd.bZ ?_))); (case side4 => exact HC0.out); rintro e w17 ⟨rfl, hb⟩; replace wW := rb wW hb; replace HB := sb HB hb; (try clear hb); (try clear hb2); (try clear hk); (try clear hi)))
      go_meet
      case rel => exact ⟨_, (!Fg), sz, H', ⟨by have := HJ3.out; first | omega | exact Nat.le_refl _⟩, ⟨hz HB.out⟩⟩
     ·
      rw [if_neg c14] at H; have pT : (yP == 0) = false := beq_eq_false_iff_ne.mpr c14; have Ag : (yP != 0) = true := bne_iff_ne.mpr c14
      (first | rw [pT] | (simp only [bN, bR]; rw [pT]) | skip)
      have H' := Aside0.mk H; clear H
      go_wp2
      go_meet
      case rel => exact ⟨_, (true), sz, H', ⟨by have := HJ3.out; first | omega | exact Nat.le_refl _⟩, ⟨hz HB.out⟩⟩
    case rest =>
     clear IY
     try clear c1
     try clear c2
     try clear p2
     try clear c5
     try clear fk
     try clear pZ
     try clear c6
     try clear c10
     try clear c14
     try clear pT
     try clear Ag
     try clear c16
     try clear p2
     obtain ⟨kq, wX, rfl, HA, HJ10, HB⟩ := hcut
     cases kq with
     | zero => exact absurd HA.out (by simp [aQ.j1])
     | succ kj10 =>
      have H := HA.out; clear HA; simp only [aQ.j1] at H
      by_cases c18 : wX = true
      ·
       subst c18; rw [if_pos rfl] at H; exact absurd H (by simp)
      ·
       replace c18 := Bool.eq_false_iff.mpr c18; subst c18; rw [if_neg (show ¬ (false = true) by decide)] at H; have IZ := Aside0.mk H; clear H
       go_upto_if 43 with (fail)
       go_cut [] (fun wc => ∃ (kq : Nat), Aside0 (aQ.j2 kq a1 a2 = some r) ∧ Aside0 (kq ≤ kj10) ∧ Aside0 (Below w.heap.size w wc))
       case first =>
        have H := IZ.out; clear IZ
        by_cases c20 : a2 = (l0.length : Int)
        ·
         rw [if_pos c20] at H; have oP : (a2 == (l0.length : Int)) = true := beq_iff_eq.mpr c20; have Fc : (a2 != (l0.length : Int)) = false := bne_eq_false_iff_eq.mpr c20; clear c20
         (first | rw [oP] | (simp only [bN, bR]; rw [oP]) | skip)
         have H' := Aside0.mk H; clear H
         go_wp2
         go_meet
         case rel => exact ⟨_, H', ⟨by have := HJ3.out; have := HJ10.out; first | omega | exact Nat.le_refl _⟩, ⟨hz HB.out⟩⟩
        ·
         rw [if_neg c20] at H; have oP : (a2 == (l0.length : Int)) = false := beq_eq_false_iff_ne.mpr c20; have Fc : (a2 != (l0.length : Int)) = true := bne_iff_ne.mpr c20
         (first | rw [oP] | (simp only [bN, bR]; rw [oP]) | skip)
         obtain ⟨⟨RB, I0⟩, A21, H⟩ := bnz H; (try dsimp only at H); obtain ⟨c22, H⟩ := ifn H; have JK : (I0 == 0) = false := beq_eq_false_iff_ne.mpr c22; have JL : (I0 != 0) = true := bne_iff_ne.mpr c22; have H' := Aside0.mk H; clear H
         go_wp2_with (first | ((with_reducible refine ak (f := 23) rfl ?_); refine aD (some 47) rfl rfl Tryz.func23 (by kernel_rfl) rfl #[.string qc, .int .i64 a2] rfl mz ?_; (with_reducible refine (bI.calls kj10 qc a2 RB I0 _ A21.out).mono ?_); rintro e w23 ⟨v889, rfl, ho0, hb⟩; refine ⟨_, rfl, ?_⟩; have US := am (Kd.cV ho0 (ai (hz HB.out))); replace HB := sb HB hb; (try clear hb); (try clear hb2); (try clear hk); (try clear hi); (try clear ho0)))
         go_meet
         case rel => exact ⟨_, H', ⟨by have := HJ3.out; have := HJ10.out; first | omega | exact Nat.le_refl _⟩, ⟨hz HB.out⟩⟩
       case rest =>
        clear IZ
        try clear c1
        try clear c2
        try clear p2
        try clear c5
        try clear fk
        try clear pZ
        try clear c6
        try clear c10
        try clear c14
        try clear pT
        try clear Ag
        try clear c16
        try clear c18
        try clear c20
        try clear oP
        try clear Fc
        try clear c22
        try clear JK
        try clear JL
        try clear c23
        try clear p2
        obtain ⟨kq, HA, HJ18, HB⟩ := hcut
        cases kq with
        | zero => exact absurd HA.out (by simp [aQ.j2])
        | succ kj18 =>
         have H := HA.out; clear HA; simp only [aQ.j2] at H; obtain ⟨⟨vG, vH⟩, A24, H⟩ := bnz H; (try dsimp only at H)
         by_cases c25 : vH = 0
         ·
          rw [if_pos c25] at H; have uk : (vH == 0) = true := beq_iff_eq.mpr c25; have DR : (vH != 0) = false := bne_eq_false_iff_eq.mpr c25; clear c25; obtain ⟨c26, H⟩ := ifz H; have JD : ((vG.length : Int) == a2) = true := beq_iff_eq.mpr c26; have JE : ((vG.length : Int) != a2) = false := bne_eq_false_iff_eq.mpr c26; clear c26; obtain ⟨BP, A27, H⟩ := bnz H; (try dsimp only at H); obtain ⟨c28, H⟩ := ifz H; have Pa : (BP.toList == a1.toList) = true := beq_iff_eq.mpr c28; have UT : (BP.toList != a1.toList) = false := bne_eq_false_iff_eq.mpr c28; clear c28; obtain ⟨IW, A29, H⟩ := bnz H; (try dsimp only at H); obtain rfl := Option.some.inj H
          go_wp2_with (first | ((with_reducible refine ak (f := 23) rfl ?_); refine aD (some 55) rfl rfl Tryz.func23 (by kernel_rfl) rfl #[.string a1, .int .i64 a2] rfl mz ?_; (with_reducible refine (bI.calls kj18 a1 a2 vG vH _ A24.out).mono ?_); rintro e w30 ⟨v893, rfl, ho0, hb⟩; refine ⟨_, rfl, ?_⟩; have nr := am (Kd.cV ho0 (ai (hz HB.out))); replace HB := sb HB hb; (try clear hb); (try clear hb2); (try clear hk); (try clear hi); (try clear ho0); obtain ⟨U8, U9, RC⟩ := Kd.bu nr.out; subst RC) | (go_at_call 16; (with_reducible refine (bg.calls kj18 _ _ vG BP _ ?side1 ?side2 A27.out).mono ?_); (case side1 => repeat (first | exact (Kd.av nr.out).2.2 | (with_reducible refine Kd.bO ?_ _) | (with_reducible refine Kd.bQ ?_ _) | (with_reducible refine Kd.bZ ?_))); (case side2 => exact (Kd.av nr.out).2.1); rintro e w32 ⟨rfl, hb⟩; replace nr := rb nr hb; replace HB := sb HB hb; (try clear hb); (try clear hb2); (try clear hk); (try clear hi)) | (go_at_call 10; (with_reducible refine (cj.calls kj18  IW _ A29.out).mono ?_); rintro e w33 ⟨rfl, hb⟩; replace nr := rb nr hb; replace HB := sb HB hb; (try clear hb); (try clear hb2); (try clear hk); (try clear hi)))
          go_ret
          exact ⟨ez, hz HB.out⟩
         ·
          rw [if_neg c25] at H; have uk : (vH == 0) = false := beq_eq_false_iff_ne.mpr c25; have DR : (vH != 0) = true := bne_iff_ne.mpr c25; obtain ⟨c34, H⟩ := ifz H; have PA : ((vG.length : Int) == 0) = true := beq_iff_eq.mpr c34; have PB : ((vG.length : Int) != 0) = false := bne_eq_false_iff_eq.mpr c34; clear c34; obtain ⟨IX, A35, H⟩ := bnz H; (try dsimp only at H); obtain rfl := Option.some.inj H
          go_wp2_with (first | ((with_reducible refine ak (f := 23) rfl ?_); refine aD (some 55) rfl rfl Tryz.func23 (by kernel_rfl) rfl #[.string a1, .int .i64 a2] rfl mz ?_; (with_reducible refine (bI.calls kj18 a1 a2 vG vH _ A24.out).mono ?_); rintro e w36 ⟨v893, rfl, ho0, hb⟩; refine ⟨_, rfl, ?_⟩; have nr := am (Kd.cV ho0 (ai (hz HB.out))); replace HB := sb HB hb; (try clear hb); (try clear hb2); (try clear hk); (try clear hi); (try clear ho0); obtain ⟨mX, mY, vv⟩ := Kd.bu nr.out; subst vv) | (go_at_call 10; (with_reducible refine (cj.calls kj18  IX _ A35.out).mono ?_); rintro e w38 ⟨rfl, hb⟩; replace nr := rb nr hb; replace HB := sb HB hb; (try clear hb); (try clear hb2); (try clear hk); (try clear hi)))
          go_ret
          exact ⟨ez, hz HB.out⟩
end Go.Proofs.YtfgnjndfnijjoaaGreat.Print
end
namespace Go.Proofs.YtfgnjndfnijjoaaGreat.Print
end Go.Proofs.YtfgnjndfnijjoaaGreat.Print
