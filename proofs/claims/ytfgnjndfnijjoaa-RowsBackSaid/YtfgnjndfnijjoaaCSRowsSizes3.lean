/- Part 3 of what RowsSizes, RowsBack stands on: merged by a program of this session out of its texts. -/
import Derived.Test.YtfgnjndfnijjoaaCSRowsSizes2
section
namespace Go.Proofs.Ytfgnjndfnijjoaa.Print
open Go.RowKit Go.Proofs.YtfgnjndfnijjoaaW.PrintWords Go.Proofs.YtfgnjndfnijjoaaW.PrintLast Go.Proofs.YtfgnjndfnijjoaaW.PrintMore
attribute [local go_sem] max2_int min2_int max_two min_two max_three min_three max_four min_four
attribute [local go_sem] run_store_float
set_option linter.unusedVariables false
set_option linter.unusedSimpArgs false
def rdMove.bad (well : Bool) (u : Int) (a b c d : Int) (name : ByteArray) (fl : Int) : Option Bool :=
  if well = false then some true else (bits_Canon.f u).bind fun cn => if cn = false then some true else (moves_One.f a b c d name fl).bind fun o => some (!o)
def rdMove.f (k : Nat) (S s : ByteArray) (e : Int) : Option (S30 × Int × ByteArray × Int) :=
  (rdFour.f s e).bind fun r => if r.2.2.2 ≠ 0 then some (z30, r.2.2.2, r.2.2.1, r.2.2.2) else
    (word_Take.f k S (wrap64 ((S.size : Int) - (r.2.2.1.size : Int))) 64).bind fun q => if q.2.2 ≠ 0 then some (z30, q.2.2, r.2.2.1, r.2.2.2) else
      (pack_Reader_Take.f r.2.2.1 r.2.2.2 (wrap64 (q.2.1 - (wrap64 ((S.size : Int) - (r.2.2.1.size : Int)))))).bind fun t => (pack_Reader_Fix.f t.2.1 t.2.2).bind fun x => if x.2.2 ≠ 0 then some (z30, x.2.2, x.2.1, x.2.2) else
        (bits_Float.f x.1).bind fun fl => (rdMove.bad r.2.1 x.1 (r.1.getD 0 0) (r.1.getD 1 0) (r.1.getD 2 0) (r.1.getD 3 0) q.1 fl).bind fun bad =>
          if bad then some (z30, 5, x.2.1, x.2.2) else some (⟨⟨r.1.getD 0 0, r.1.getD 1 0⟩, r.1.getD 2 0, r.1.getD 3 0, q.1, fl⟩, 0, x.2.1, x.2.2)
def zMove : Array Value := #[.int .i64 0, .int .i64 0, .int .i64 0, .int .i64 0, .string ⟨#[]⟩, .float .f64 0]
theorem step_value {P : Program} {ops : Array Oper} {a : Act} {W w1 : World} {K : Act → World → Prop} {Q : Exit → Act → World → Prop} {oi : Oper} {N : Option Tmp} {v : Value} (hw : Region.wanted oi (yielded ops a.tmps) = true) (hN : oi.dst = N)
    (hrun : (execOp a.eval oi).run P W = .ok (.value v) w1) (h : K (a.put N v) w1) : if Region.wanted oi (yielded ops a.tmps) = true then Oper.wp P oi a W K Q else K (a.put N undef) W := by
  subst hN
  rw [if_pos hw]
  unfold Oper.wp
  rw [hrun]
  exact h
theorem step_skip {P : Program} {ops : Array Oper} {a : Act} {W w1 : World} {K : Act → World → Prop} {Q : Exit → Act → World → Prop} {oi : Oper} (hw : Region.wanted oi (yielded ops a.tmps) = true) (hN : oi.dst = none)
    (hrun : (execOp a.eval oi).run P W = .ok .skip w1) (h : K (a.put none undef) w1) : if Region.wanted oi (yielded ops a.tmps) = true then Oper.wp P oi a W K Q else K (a.put none undef) W := by
  rw [if_pos hw]
  unfold Oper.wp
  rw [hrun]
  show K (a.put oi.dst undef) w1
  rw [hN]
  exact h
theorem six {W : World} {g : Nat} {t : TypeId} {c0 c1 c2 c3 c4 c5 : Value} (h : W.heap[g]? = some (.cells #[c0, c1, c2, c3, c4, c5] t (0, 0))) (u0 u1 u2 u3 u4 u5 : Value) :
    W.cell? ⟨g, 0, none⟩ = some c0 ∧ W.frozen? ⟨g, 0, none⟩ = false ∧ (W.setCell ⟨g, 0, none⟩ u0).cell? ⟨g, 1, none⟩ = some c1 ∧ (W.setCell ⟨g, 0, none⟩ u0).frozen? ⟨g, 1, none⟩ = false ∧ ((W.setCell ⟨g, 0, none⟩ u0).setCell ⟨g, 1, none⟩ u1).cell? ⟨g, 2, none⟩ = some c2 ∧ ((W.setCell ⟨g, 0, none⟩ u0).setCell ⟨g, 1, none⟩ u1).frozen? ⟨g, 2, none⟩ = false ∧ (((W.setCell ⟨g, 0, none⟩ u0).setCell ⟨g, 1, none⟩ u1).setCell ⟨g, 2, none⟩ u2).cell? ⟨g, 3, none⟩ = some c3 ∧ (((W.setCell ⟨g, 0, none⟩ u0).setCell ⟨g, 1, none⟩ u1).setCell ⟨g, 2, none⟩ u2).frozen? ⟨g, 3, none⟩ = false ∧ ((((W.setCell ⟨g, 0, none⟩ u0).setCell ⟨g, 1, none⟩ u1).setCell ⟨g, 2, none⟩ u2).setCell ⟨g, 3, none⟩ u3).cell? ⟨g, 4, none⟩ = some c4 ∧ ((((W.setCell ⟨g, 0, none⟩ u0).setCell ⟨g, 1, none⟩ u1).setCell ⟨g, 2, none⟩ u2).setCell ⟨g, 3, none⟩ u3).frozen? ⟨g, 4, none⟩ = false ∧ (((((W.setCell ⟨g, 0, none⟩ u0).setCell ⟨g, 1, none⟩ u1).setCell ⟨g, 2, none⟩ u2).setCell ⟨g, 3, none⟩ u3).setCell ⟨g, 4, none⟩ u4).cell? ⟨g, 5, none⟩ = some c5 ∧ (((((W.setCell ⟨g, 0, none⟩ u0).setCell ⟨g, 1, none⟩ u1).setCell ⟨g, 2, none⟩ u2).setCell ⟨g, 3, none⟩ u3).setCell ⟨g, 4, none⟩ u4).frozen? ⟨g, 5, none⟩ = false ∧ ((((((W.setCell ⟨g, 0, none⟩ u0).setCell ⟨g, 1, none⟩ u1).setCell ⟨g, 2, none⟩ u2).setCell ⟨g, 3, none⟩ u3).setCell ⟨g, 4, none⟩ u4).setCell ⟨g, 5, none⟩ u5).heap[g]? = some (.cells #[u0, u1, u2, u3, u4, u5] t (0, 0)) := by
  have b1 := blk_set h 0 u0
  have b2 := blk_set b1 1 u1
  have b3 := blk_set b2 2 u2
  have b4 := blk_set b3 3 u3
  have b5 := blk_set b4 4 u4
  have b6 := blk_set b5 5 u5
  exact ⟨(blk_cell h 0).trans rfl, blk_frozen h 0, (blk_cell b1 1).trans rfl, blk_frozen b1 1, (blk_cell b2 2).trans rfl, blk_frozen b2 2, (blk_cell b3 3).trans rfl, blk_frozen b3 3, (blk_cell b4 4).trans rfl, blk_frozen b4 4, (blk_cell b5 5).trans rfl, blk_frozen b5 5, b6⟩
structure MvOut (w0 w W : World) (gr gp gA : Nat) (S s : ByteArray) (e : Int) : Prop where
  mk :: (I : IsRd w0 W gr gp S s e) (B : Below w0.heap.size w0 W) (K : KeepBut w W gp none) (n1 : gr < w.heap.size) (n2 : gp < w.heap.size) (n3 : w.heap.size ≤ gA) (n4 : w0.heap.size ≤ w.heap.size)
theorem MvOut.set {w0 w W : World} {gr gp gA : Nat} {S s : ByteArray} {e : Int} (h : MvOut w0 w W gr gp gA S s e) (j : Nat) (u : Value) : MvOut w0 w (W.setCell ⟨gA, j, none⟩ u) gr gp gA S s e := by
  obtain ⟨hI, hB, hK, n1, n2, n3, n4⟩ := h
  exact ⟨hI.far (by omega) (by omega) j u, hB.setCell (p := ⟨gA, j, none⟩) (by show _ ≤ gA; omega) _, ⟨by have := hK.1; simpa using this, fun k hk h1 h2 => (Below.heap_setCell W _ _ _ (by show k ≠ gA; omega)).trans (hK.2 k hk h1 h2)⟩, n1, n2, n3, n4⟩
structure MvInv (w0 w W : World) (gr gp gA g4 : Nat) (S s : ByteArray) (e : Int) (x0 x1 x2 x3 : Int) : Prop where
  mk :: (O : MvOut w0 w W gr gp gA S s e) (Z : W.heap[gA]? = some (.cells zMove 30 (0, 0))) (F : W.heap[g4]? = some (.cells #[.int .i64 x0, .int .i64 x1, .int .i64 x2, .int .i64 x3] 46 (0, 0))) (n4 : w.heap.size ≤ g4)
theorem MvInv.step {w0 w W W' : World} {gr gp gA g4 : Nat} {S s s' : ByteArray} {e e' : Int} {x0 x1 x2 x3 : Int} (h : MvInv w0 w W gr gp gA g4 S s e x0 x1 x2 x3) (hI : IsS85 w0 W' gp s' e') (hB : Below w0.heap.size w0 W') (hk : KeepBut W W' gp none) : MvInv w0 w W' gr gp gA g4 S s' e' x0 x1 x2 x3 := by
  obtain ⟨⟨aI, aB, aK, n1, n2, n3, n4⟩, Z, F, n5⟩ := h
  exact ⟨⟨aI.step hk hI, hB, aK.trans hk (.inl rfl), n1, n2, n3, n4⟩, hk.blk Z (by omega) (by simp), hk.blk F (by omega) (by simp), n5⟩
theorem MvInv.below {w0 w W W' : World} {gr gp gA g4 : Nat} {S s : ByteArray} {e : Int} {x0 x1 x2 x3 : Int} (h : MvInv w0 w W gr gp gA g4 S s e x0 x1 x2 x3) (hb : Below W.heap.size W W') : MvInv w0 w W' gr gp gA g4 S s e x0 x1 x2 x3 := by
  obtain ⟨⟨aI, aB, aK, n1, n2, n3, n4⟩, Z, F, n5⟩ := h
  exact ⟨⟨aI.below hb, below_step aB hb, aK.trans (KeepBut.of_below hb _ _) (.inl rfl), n1, n2, n3, n4⟩, blk_below Z hb, blk_below F hb, n5⟩
theorem MvInv.k0 {w0 w W : World} {gr gp gA g4 : Nat} {S s : ByteArray} {e : Int} {x0 x1 x2 x3 : Int} (h : MvInv w0 w W gr gp gA g4 S s e x0 x1 x2 x3) : W.cell? ⟨gr, 0, none⟩ = some (.pointer (some ⟨gp, 0, none⟩)) := (blk_cell h.O.I.blk 0).trans rfl
theorem MvInv.k1 {w0 w W : World} {gr gp gA g4 : Nat} {S s : ByteArray} {e : Int} {x0 x1 x2 x3 : Int} (h : MvInv w0 w W gr gp gA g4 S s e x0 x1 x2 x3) : W.cell? ⟨gr, 1, none⟩ = some (.string S) := (blk_cell h.O.I.blk 1).trans rfl
theorem MvInv.row_at {w0 w W : World} {gr gp gA g4 gm : Nat} {S s : ByteArray} {e : Int} {x0 x1 x2 x3 : Int} (h : MvInv w0 w W gr gp gA g4 S s e x0 x1 x2 x3) (hm : w.heap.size ≤ gm) (h4 : g4 ≠ gm) (hA : gA ≠ gm) (c : Array Value) : MvInv w0 w (W.setRow gm c) gr gp gA g4 S s e x0 x1 x2 x3 := by
  obtain ⟨⟨⟨ab, ast, ag⟩, aB, aK, n1, n2, n3, n4⟩, Z, F, n5⟩ := h
  have hk : ∀ k, k ≠ gm → (W.setRow gm c).heap[k]? = W.heap[k]? := fun k hk => by
    simp only [World.setRow, Array.getElem?_modify]
    rw [if_neg (fun e => hk e.symm)]
  exact ⟨⟨⟨(hk _ (by omega)).trans ab, (hk _ (by omega)).trans ast, ag⟩, setRow_below (by omega) aB, ⟨by have := aK.1; simpa [World.setRow] using this, fun k hlt h1 h2 => (hk k (by omega)).trans (aK.2 k hlt h1 h2)⟩, n1, n2, n3, n4⟩, (hk _ hA).trans Z, (hk _ h4).trans F, n5⟩
theorem drawn0_below {w w' : World} (h : Drawn0 w w') : Below w.heap.size w w' := by
  obtain ⟨n, rfl⟩ := h
  exact pw_below_drewN (Below.refl _ _) _
set_option maxHeartbeats 8000000 in
set_option maxRecDepth 100000 in
theorem rdMove.calls (k gr gp : Nat) (S s : ByteArray) (e : Int) (m : S30) (er : Int) (s' : ByteArray) (e' : Int) (w0 w : World) (hI : IsRd w0 w gr gp S s e) (hB : Below w0.heap.size w0 w) (h : rdMove.f k S s e = some (m, er, s', e')) :
    Calls Try.prog 32 #[.pointer (some ⟨gr, 0, none⟩)] w fun e_ w' => (∃ b, e_ = .returned (.tuple #[.agg #[.int .i64 m.f0.f0, .int .i64 m.f0.f1, .int .i64 m.f1, .int .i64 m.f2, .string m.f3, .float .f64 b], .int .i64 er]) ∧ FB b m.f4) ∧ IsRd w0 w' gr gp S s' e' ∧ Below w0.heap.size w0 w' ∧ KeepBut w w' gp none := by
  have hu := Try.underlying60
  have hu2 := Try.underlying46
  have hu3 := Try.underlying30
  have hu4 := Try.underlying27
  have hw0 := hB.size
  have HW0 := Aside0.mk hw0
  have HG := Aside0.mk (show gr < w.heap.size ∧ gp < w.heap.size from ⟨blk_lt hI.blk, blk_lt hI.st.1⟩)
  unfold rdMove.f at h
  obtain ⟨⟨n, well, s1, e1⟩, H1, h⟩ := Option.bind_eq_some_iff.mp h
  have hlen := rdFour.len 4 _ _ _ _ _ H1
  obtain ⟨x0, x1, x2, x3, rfl⟩ : ∃ x0 x1 x2 x3, n = [x0, x1, x2, x3] := by
    match n, hlen with
    | [a, b, c, d], _ => exact ⟨a, b, c, d, rfl⟩
  have A1 := Aside0.mk H1
  clear hlen H1
  dsimp only at h
  have HI := Aside0.mk (hI.below (below_alloc (Below.refl _ w) (.cells zMove 30)))
  have HB := Aside0.mk (below_alloc hB (.cells zMove 30))
  have HZ := Aside0.mk (blk_new w (.cells zMove 30))
  have HK := Aside0.mk (keep_alloc (KeepBut.refl w gp none) (.cells zMove 30))
  clear hI hB hw0
  have H := Aside0.mk h
  clear h
  go_enter Try.func32, Try.ntmps32
  obtain ⟨gA, hgA⟩ : ∃ gA, gA = w.heap.size := ⟨_, rfl⟩
  have GA := Aside0.mk hgA
  go_wp2_with (first | (go_at_call 58; (refine (rdFour.calls gr gp S s e _ well s1 e1 w0 _ HI.out HB.out A1.out).mono ?_); rintro e_ w5 ⟨rfl, hI5, hB5, hK5⟩; have M := Aside0.mk (show MvInv w0 w (w5.alloc (.cells #[.int .i64 x0, .int .i64 x1, .int .i64 x2, .int .i64 x3] 46)) gr gp w.heap.size w5.heap.size S s1 e1 x0 x1 x2 x3 from by
    have g := HG.out
    have z := hK5.blk HZ.out (by omega) (by simp)
    have sz := hK5.1
    rw [World.size_alloc] at sz
    exact ⟨⟨hI5.below (below_alloc (Below.refl _ _) _), below_alloc hB5 _, keep_alloc (HK.out.trans hK5 (.inl rfl)) _, g.1, g.2, Nat.le_refl _, HW0.out⟩, blk_alloc z _, blk_new _ _, by omega⟩); have k0 := M.out.k0; clear hI5 hB5 hK5))
  have inf : (Try.prog.info? 30).map (·.size) = some 6 := by kernel_rfl
  have INF := Aside0.mk inf
  obtain ⟨W6, hW6⟩ : ∃ W6, W6 = w5.alloc (.cells #[.int .i64 x0, .int .i64 x1, .int .i64 x2, .int .i64 x3] 46) := ⟨_, rfl⟩
  obtain ⟨g4, hg4⟩ : ∃ g4, g4 = w5.heap.size := ⟨_, rfl⟩
  rw [← hW6, ← hg4] at M
  rw [← hW6] at k0 ⊢
  rw [← hg4]
  clear hW6 hg4 inf
  refine (pack_Reader_Err_any gp _ _ _ M.out.O.I.st.1).mono ?_
  rintro e_ w6 ⟨rfl, hw6⟩
  subst hw6
  by_cases hE1 : e1 = 0
  case neg =>
    have h := H.out
    rw [if_pos hE1] at h
    obtain ⟨rfl, rfl, rfl, rfl⟩ := by simpa using h
    clear h H
    have Z := M.out.Z
    unfold zMove at Z
    obtain ⟨q0, f0, q1, f1, q2, f2, q3, f3, q4, f4, q5, f5, hb6⟩ := six Z (.int .i64 0) (.int .i64 0) (.int .i64 0) (.int .i64 0) (.string ⟨#[]⟩) (.float .f64 0)
    have HB6 := Aside0.mk hb6
    clear Z hb6
    try go_wp2
    refine bodyPost_ret (results_ct (p := 2) (u := 3) (ty := 30) rfl _ _ w.heap.size 30 _ (0, 0) _ rfl HB6.out hu3 rfl INF.out) rfl ?_
    have O := (((((M.out.O.set 0 (.int .i64 0)).set 1 (.int .i64 0)).set 2 (.int .i64 0)).set 3 (.int .i64 0)).set 4 (.string ⟨#[]⟩)).set 5 (.float .f64 0)
    exact ⟨⟨0, rfl, FB_lit 0 0 (by kernel_rfl)⟩, O.I, O.B, O.K⟩
  subst hE1
  have h := H.out
  rw [if_neg (by simp)] at h
  obtain ⟨⟨name, tt, e2⟩, H2, h⟩ := Option.bind_eq_some_iff.mp h
  dsimp only at h H2
  have A2 := Aside0.mk H2
  clear H H2
  have H := Aside0.mk h
  clear h
  have k1 := M.out.k1
  go_wp2_with (first | (go_at_call 59; (refine (rdAt.calls gr gp S s1 0 w0 _ M.out.O.I).mono ?_); rintro e_ w7 ⟨rfl, hb⟩; have n1_ := Aside0.mk (M.out.below hb); clear M k0 k1 hb; have M := n1_; clear n1_; have k0 := M.out.k0; have k1 := M.out.k1))
  refine (word_Take.calls k S _ _ name tt e2 _ A2.out).mono ?_
  rintro e_ w8 ⟨rfl, hb⟩
  have n1_ := Aside0.mk (M.out.below hb)
  clear M k0 k1 hb
  have M := n1_
  clear n1_
  have k0 := M.out.k0
  by_cases hE2 : e2 = 0
  case neg =>
    have h := H.out
    rw [if_pos hE2] at h
    obtain ⟨rfl, rfl, rfl, rfl⟩ := by simpa using h
    clear h H
    have Z := M.out.Z
    unfold zMove at Z
    obtain ⟨q0, f0, q1, f1, q2, f2, q3, f3, q4, f4, q5, f5, hb6⟩ := six Z (.int .i64 0) (.int .i64 0) (.int .i64 0) (.int .i64 0) (.string ⟨#[]⟩) (.float .f64 0)
    have HB6 := Aside0.mk hb6
    clear Z hb6
    try go_wp2
    refine bodyPost_ret (results_ct (p := 2) (u := 3) (ty := 30) rfl _ _ w.heap.size 30 _ (0, 0) _ rfl HB6.out hu3 rfl INF.out) rfl ?_
    have O := (((((M.out.O.set 0 (.int .i64 0)).set 1 (.int .i64 0)).set 2 (.int .i64 0)).set 3 (.int .i64 0)).set 4 (.string ⟨#[]⟩)).set 5 (.float .f64 0)
    exact ⟨⟨0, rfl, FB_lit 0 0 (by kernel_rfl)⟩, O.I, O.B, O.K⟩
  subst hE2
  have h := H.out
  rw [if_neg (by simp)] at h
  obtain ⟨⟨t1, s2, e3⟩, H3, h⟩ := Option.bind_eq_some_iff.mp h
  obtain ⟨⟨u, s3, e4⟩, H4, h⟩ := Option.bind_eq_some_iff.mp h
  dsimp only at h H3 H4
  have A3 := Aside0.mk H3
  have A4 := Aside0.mk H4
  clear H H3 H4
  have H := Aside0.mk h
  clear h
  go_wp2_with (first | (go_at_call 61; (refine (pack_Reader_Take.calls gp s1 0 _ t1 s2 e3 w0 _ M.out.O.I.st M.out.O.B A3.out).mono ?_); rintro e_ w9 ⟨rfl, hi, hb, hk⟩; have n1_ := Aside0.mk (M.out.step hi hb hk); clear M k0 hi hb hk; have M := n1_; clear n1_; have k0 := M.out.k0) | (go_at_call 62; (refine (pack_Reader_Fix.calls gp s2 e3 u s3 e4 w0 _ M.out.O.I.st M.out.O.B A4.out).mono ?_); rintro e_ w10 ⟨rfl, hi, hb, hk⟩; have n1_ := Aside0.mk (M.out.step hi hb hk); clear M k0 hi hb hk; have M := n1_; clear n1_; have k0 := M.out.k0))
  refine (pack_Reader_Err_any gp _ _ _ M.out.O.I.st.1).mono ?_
  rintro e_ w11 ⟨rfl, hw11⟩
  subst hw11
  by_cases hE4 : e4 = 0
  case neg =>
    have h := H.out
    rw [if_pos hE4] at h
    obtain ⟨rfl, rfl, rfl, rfl⟩ := by simpa using h
    clear h H
    have Z := M.out.Z
    unfold zMove at Z
    obtain ⟨q0, f0, q1, f1, q2, f2, q3, f3, q4, f4, q5, f5, hb6⟩ := six Z (.int .i64 0) (.int .i64 0) (.int .i64 0) (.int .i64 0) (.string ⟨#[]⟩) (.float .f64 0)
    have HB6 := Aside0.mk hb6
    clear Z hb6
    try go_wp2
    refine bodyPost_ret (results_ct (p := 2) (u := 3) (ty := 30) rfl _ _ w.heap.size 30 _ (0, 0) _ rfl HB6.out hu3 rfl INF.out) rfl ?_
    have O := (((((M.out.O.set 0 (.int .i64 0)).set 1 (.int .i64 0)).set 2 (.int .i64 0)).set 3 (.int .i64 0)).set 4 (.string ⟨#[]⟩)).set 5 (.float .f64 0)
    exact ⟨⟨0, rfl, FB_lit 0 0 (by kernel_rfl)⟩, O.I, O.B, O.K⟩
  subst hE4
  have h := H.out
  rw [if_neg (by simp)] at h
  obtain ⟨fl, H5, h⟩ := Option.bind_eq_some_iff.mp h
  obtain ⟨bad, H6, h⟩ := Option.bind_eq_some_iff.mp h
  have A5 := Aside0.mk H5
  have A6 := Aside0.mk H6
  clear H H5 H6
  have H := Aside0.mk h
  clear h
  have F := M.out.F
  have c0 := (blk_cell F 0).trans rfl
  have c1 := (blk_cell F 1).trans rfl
  have c2 := (blk_cell F 2).trans rfl
  have c3 := (blk_cell F 3).trans rfl
  clear F
  go_upto_region 14 with (fail)
  have hne : g4 ≠ w11.heap.size := by
    have := blk_lt M.out.F
    omega
  have hgA : w11.heap.size ≠ g4 := fun h => hne h.symm
  go_cut [13] (fun v13 wc => ∃ (gm b5 : Nat), v13 = .pointer (some ⟨gm, 0, none⟩) ∧ Aside0 (FB b5 fl) ∧ Aside0 (wc.heap[gm]? = some (.cells #[.int .i64 x0, .int .i64 x1, .int .i64 x2, .int .i64 x3, .string name, .float .f64 b5] 30 (0, 0))) ∧ Aside0 (MvInv w0 w wc gr gp w.heap.size g4 S s3 0 x0 x1 x2 x3))
  case first =>
    refine start_ (n := 15) (S := fun W => W.cell? ⟨g4, 0, none⟩ = some (.int .i64 x0) ∧ W.cell? ⟨g4, 1, none⟩ = some (.int .i64 x1) ∧ W.cell? ⟨g4, 2, none⟩ = some (.int .i64 x2) ∧ W.cell? ⟨g4, 3, none⟩ = some (.int .i64 x3)) (ds := [14]) #[false, false, false, false, false, false, false, false, false, false, false, false, false, false, false] (by kernel_rfl) rfl rfl ⟨c0, c1, c2, c3⟩ (fun hHeld => ?_)
    refine pure_ (i := 0) (N := some 66) (v := .pointer (some ⟨g4, 0, none⟩)) (a' := ?_) #[true, false, false, false, false, false, false, false, false, false, false, false, false, false, false] rfl rfl (by kernel_rfl) (fun _ _ _ h => h) (Or.inl ⟨by kernel_rfl, fun w' => by go_simp⟩) ?_ ?_
    rotate_left
    · simp only [Act.put, List.setIfInBounds_toArray, List.set_cons_zero, List.set_cons_succ]
      rfl
    refine take_ (i := 1) (N := some 67) (v := .int .i64 x0) (a' := ?_) #[true, true, false, false, false, false, false, false, false, false, false, false, false, false, false] rfl rfl (by kernel_rfl) (fun _ _ _ h => h) (Or.inl ⟨by kernel_rfl, fun w' hw' => by obtain ⟨y0, y1, y2, y3⟩ := hw'; go_simp⟩) hHeld ?_ ?_
    rotate_left
    · simp only [Act.put, List.setIfInBounds_toArray, List.set_cons_zero, List.set_cons_succ]
      rfl
    refine pure_ (i := 2) (N := some 68) (v := .pointer (some ⟨g4, 1, none⟩)) (a' := ?_) #[true, true, true, false, false, false, false, false, false, false, false, false, false, false, false] rfl rfl (by kernel_rfl) (fun _ _ _ h => h) (Or.inl ⟨by kernel_rfl, fun w' => by go_simp⟩) ?_ ?_
    rotate_left
    · simp only [Act.put, List.setIfInBounds_toArray, List.set_cons_zero, List.set_cons_succ]
      rfl
    refine take_ (i := 3) (N := some 69) (v := .int .i64 x1) (a' := ?_) #[true, true, true, true, false, false, false, false, false, false, false, false, false, false, false] rfl rfl (by kernel_rfl) (fun _ _ _ h => h) (Or.inl ⟨by kernel_rfl, fun w' hw' => by obtain ⟨y0, y1, y2, y3⟩ := hw'; go_simp⟩) hHeld ?_ ?_
    rotate_left
    · simp only [Act.put, List.setIfInBounds_toArray, List.set_cons_zero, List.set_cons_succ]
      rfl
    refine pure_ (i := 4) (N := some 70) (v := .agg #[.int .i64 x0, .int .i64 x1]) (a' := ?_) #[true, true, true, true, true, false, false, false, false, false, false, false, false, false, false] rfl rfl (by kernel_rfl) (fun _ _ _ h => h) (Or.inl ⟨by kernel_rfl, fun w' => by go_simp⟩) ?_ ?_
    rotate_left
    · simp only [Act.put, List.setIfInBounds_toArray, List.set_cons_zero, List.set_cons_succ]
      rfl
    refine pure_ (i := 5) (N := some 71) (v := .pointer (some ⟨g4, 2, none⟩)) (a' := ?_) #[true, true, true, true, true, true, false, false, false, false, false, false, false, false, false] rfl rfl (by kernel_rfl) (fun _ _ _ h => h) (Or.inl ⟨by kernel_rfl, fun w' => by go_simp⟩) ?_ ?_
    rotate_left
    · simp only [Act.put, List.setIfInBounds_toArray, List.set_cons_zero, List.set_cons_succ]
      rfl
    refine take_ (i := 6) (N := some 72) (v := .int .i64 x2) (a' := ?_) #[true, true, true, true, true, true, true, false, false, false, false, false, false, false, false] rfl rfl (by kernel_rfl) (fun _ _ _ h => h) (Or.inl ⟨by kernel_rfl, fun w' hw' => by obtain ⟨y0, y1, y2, y3⟩ := hw'; go_simp⟩) hHeld ?_ ?_
    rotate_left
    · simp only [Act.put, List.setIfInBounds_toArray, List.set_cons_zero, List.set_cons_succ]
      rfl
    refine pure_ (i := 7) (N := some 73) (v := .pointer (some ⟨g4, 3, none⟩)) (a' := ?_) #[true, true, true, true, true, true, true, true, false, false, false, false, false, false, false] rfl rfl (by kernel_rfl) (fun _ _ _ h => h) (Or.inl ⟨by kernel_rfl, fun w' => by go_simp⟩) ?_ ?_
    rotate_left
    · simp only [Act.put, List.setIfInBounds_toArray, List.set_cons_zero, List.set_cons_succ]
      rfl
    refine take_ (i := 8) (N := some 74) (v := .int .i64 x3) (a' := ?_) #[true, true, true, true, true, true, true, true, true, false, false, false, false, false, false] rfl rfl (by kernel_rfl) (fun _ _ _ h => h) (Or.inl ⟨by kernel_rfl, fun w' hw' => by obtain ⟨y0, y1, y2, y3⟩ := hw'; go_simp⟩) hHeld ?_ ?_
    rotate_left
    · simp only [Act.put, List.setIfInBounds_toArray, List.set_cons_zero, List.set_cons_succ]
      rfl
    refine pure_ (i := 9) (N := some 75) (v := .string name) (a' := ?_) #[true, true, true, true, true, true, true, true, true, true, false, false, false, false, false] rfl rfl (by kernel_rfl) (fun _ _ _ h => h) (Or.inl ⟨by kernel_rfl, fun w' => by go_simp⟩) ?_ ?_
    rotate_left
    · simp only [Act.put, List.setIfInBounds_toArray, List.set_cons_zero, List.set_cons_succ]
      rfl
    refine pure_ (i := 10) (N := some 76) (v := .int .u64 u) (a' := ?_) #[true, true, true, true, true, true, true, true, true, true, true, false, false, false, false] rfl rfl (by kernel_rfl) (fun _ _ _ h => h) (Or.inl ⟨by kernel_rfl, fun w' => by go_simp⟩) ?_ ?_
    rotate_left
    · simp only [Act.put, List.setIfInBounds_toArray, List.set_cons_zero, List.set_cons_succ]
      rfl
    refine two_ (i := 11) (j := 13) (Ni := some 77) (Nj := some 13) #[true, true, true, true, true, true, true, true, true, true, true, true, false, false, false] #[true, true, true, true, true, true, true, true, true, true, true, false, false, true, false] rfl rfl rfl rfl (by kernel_rfl) (by decide) (by decide) (fun K hK => ?_) (fun K hK => ?_)
    · clear c0 c1 c2 c3
      refine goes_ Try.func63 (by kernel_rfl) rfl #[.int .u64 u] (by kernel_rfl) rfl rfl (by simp only [List.map_toArray, List.map_cons, List.map_nil]; rfl) ?_
      with_reducible refine (bits_Float.calls u fl _ A5.out).mono ?_
      rintro e_ w12 ⟨b5, rfl, hb5, hb⟩
      refine ⟨_, rfl, ?_⟩
      refine hK.out _ _ ⟨pw_cell_below hb hHeld.1, pw_cell_below hb hHeld.2.1, pw_cell_below hb hHeld.2.2.1, pw_cell_below hb hHeld.2.2.2⟩ (fun hHeld2 => ?_)
      clear hK K
      refine norm_ (a' := ?_) ?_ ?_
      rotate_left
      · show Act.put _ (some 77) _ = _
        simp only [Act.put, List.setIfInBounds_toArray, List.set_cons_zero, List.set_cons_succ]
        rfl
      refine pure_ (i := 12) (N := some 78) (v := .agg #[.int .i64 x0, .int .i64 x1, .int .i64 x2, .int .i64 x3, .string name, .float .f64 b5]) (a' := ?_) #[true, true, true, true, true, true, true, true, true, true, true, true, true, false, false] rfl rfl (by kernel_rfl) (fun _ _ _ h => h) (Or.inl ⟨by kernel_rfl, fun w' => by go_simp⟩) ?_ ?_
      rotate_left
      · simp only [Act.put, List.setIfInBounds_toArray, List.set_cons_zero, List.set_cons_succ]
        rfl
      refine one_ (i := 13) (N := some 13) #[true, true, true, true, true, true, true, true, true, true, true, true, true, true, false] rfl rfl (by kernel_rfl) (by decide) (fun K hK => ?_)
      refine step_value (by kernel_rfl) rfl (v := .pointer (some ⟨w12.heap.size, 0, none⟩)) (w1 := w12.alloc (.cells #[.int .i64 0, .int .i64 0, .int .i64 0, .int .i64 0, .string ⟨#[]⟩, .float .f64 0] 30)) (by first | kernel_rfl | rfl) ?_
      have ba := below_alloc (Below.refl w12.heap.size w12) (.cells #[.int .i64 0, .int .i64 0, .int .i64 0, .int .i64 0, .string ⟨#[]⟩, .float .f64 0] 30)
      refine hK.out _ _ ⟨pw_cell_below ba hHeld2.1, pw_cell_below ba hHeld2.2.1, pw_cell_below ba hHeld2.2.2.1, pw_cell_below ba hHeld2.2.2.2⟩ (fun hHeld3 => ?_)
      clear hK K
      refine norm_ (a' := ?_) ?_ ?_
      rotate_left
      · show Act.put _ (some 13) _ = _
        simp only [Act.put, List.setIfInBounds_toArray, List.set_cons_zero, List.set_cons_succ]
        rfl
      refine last_ (i := 14) (N := none) #[true, true, true, true, true, true, true, true, true, true, true, true, true, true, true] rfl rfl (by kernel_rfl) (by decide) (fun K hK => ?_)
      refine step_skip (w1 := World.setRow (w12.alloc (.cells #[.int .i64 0, .int .i64 0, .int .i64 0, .int .i64 0, .string ⟨#[]⟩, .float .f64 0] 30)) w12.heap.size #[.int .i64 x0, .int .i64 x1, .int .i64 x2, .int .i64 x3, .string name, .float .f64 b5]) (by kernel_rfl) rfl (store_whole_run (c' := #[.int .i64 x0, .int .i64 x1, .int .i64 x2, .int .i64 x3, .string name, .float .f64 b5]) rfl rfl rfl (blk_new w12 _) INF.out rfl (by first | kernel_rfl | simp [Value.oneCell'])) ?_
      refine hK.out _ _ ?_
      clear hK K
      refine norm_ (a' := ?_) ?_ ?_
      rotate_left
      · show Act.put _ none _ = _
        simp only [Act.put]
        rfl
      refine done_ (by kernel_rfl) ?_
      go_wp2
      go_meet
      case rel =>
        have b2 := blk_new w12 (.cells #[.int .i64 0, .int .i64 0, .int .i64 0, .int .i64 0, .string ⟨#[]⟩, .float .f64 0] 30)
        exact ⟨w12.heap.size, b5, rfl, ⟨hb5⟩, ⟨setRow_blk b2⟩, ⟨(((M.out.below (below_drew1 (Below.refl _ _))).below hb).below ba).row_at (by have := M.out.O.K.1; have := hb.size; show w.heap.size ≤ w12.heap.size; exact Nat.le_trans M.out.O.K.1 hb.size) (by have := blk_lt M.out.F; have h2 : w11.heap.size ≤ w12.heap.size := hb.size; omega) (by have := blk_lt M.out.Z; have h2 : w11.heap.size ≤ w12.heap.size := hb.size; omega) _⟩⟩
    · clear c0 c1 c2 c3
      refine step_value (by kernel_rfl) rfl (v := .pointer (some ⟨w11.drew.heap.size, 0, none⟩)) (w1 := w11.drew.alloc (.cells #[.int .i64 0, .int .i64 0, .int .i64 0, .int .i64 0, .string ⟨#[]⟩, .float .f64 0] 30)) (by first | kernel_rfl | rfl) ?_
      have ba := below_alloc (Below.refl w11.drew.heap.size w11.drew) (.cells #[.int .i64 0, .int .i64 0, .int .i64 0, .int .i64 0, .string ⟨#[]⟩, .float .f64 0] 30)
      refine hK.out _ _ ⟨pw_cell_below ba hHeld.1, pw_cell_below ba hHeld.2.1, pw_cell_below ba hHeld.2.2.1, pw_cell_below ba hHeld.2.2.2⟩ (fun hHeld2 => ?_)
      clear hK K
      refine norm_ (a' := ?_) ?_ ?_
      rotate_left
      · show Act.put _ (some 13) _ = _
        simp only [Act.put, List.setIfInBounds_toArray, List.set_cons_zero, List.set_cons_succ]
        rfl
      refine one_ (i := 11) (N := some 77) #[true, true, true, true, true, true, true, true, true, true, true, true, false, true, false] rfl rfl (by kernel_rfl) (by decide) (fun K hK => ?_)
      refine goes_ Try.func63 (by kernel_rfl) rfl #[.int .u64 u] (by kernel_rfl) rfl rfl (by simp only [List.map_toArray, List.map_cons, List.map_nil]; rfl) ?_
      with_reducible refine (bits_Float.calls u fl _ A5.out).mono ?_
      rintro e_ w12 ⟨b5, rfl, hb5, hb⟩
      refine ⟨_, rfl, ?_⟩
      refine hK.out _ _ ⟨pw_cell_below hb hHeld2.1, pw_cell_below hb hHeld2.2.1, pw_cell_below hb hHeld2.2.2.1, pw_cell_below hb hHeld2.2.2.2⟩ (fun hHeld2 => ?_)
      clear hK K
      refine norm_ (a' := ?_) ?_ ?_
      rotate_left
      · show Act.put _ (some 77) _ = _
        simp only [Act.put, List.setIfInBounds_toArray, List.set_cons_zero, List.set_cons_succ]
        rfl
      refine pure_ (i := 12) (N := some 78) (v := .agg #[.int .i64 x0, .int .i64 x1, .int .i64 x2, .int .i64 x3, .string name, .float .f64 b5]) (a' := ?_) #[true, true, true, true, true, true, true, true, true, true, true, true, true, true, false] rfl rfl (by kernel_rfl) (fun _ _ _ h => h) (Or.inl ⟨by kernel_rfl, fun w' => by go_simp⟩) ?_ ?_
      rotate_left
      · simp only [Act.put, List.setIfInBounds_toArray, List.set_cons_zero, List.set_cons_succ]
        rfl
      refine last_ (i := 14) (N := none) #[true, true, true, true, true, true, true, true, true, true, true, true, true, true, true] rfl rfl (by kernel_rfl) (by decide) (fun K hK => ?_)
      refine step_skip (w1 := World.setRow w12 w11.heap.size #[.int .i64 x0, .int .i64 x1, .int .i64 x2, .int .i64 x3, .string name, .float .f64 b5]) (by kernel_rfl) rfl (store_whole_run (c' := #[.int .i64 x0, .int .i64 x1, .int .i64 x2, .int .i64 x3, .string name, .float .f64 b5]) rfl rfl rfl (blk_below (blk_new w11.drew (.cells #[.int .i64 0, .int .i64 0, .int .i64 0, .int .i64 0, .string ⟨#[]⟩, .float .f64 0] 30)) hb) INF.out rfl (by first | kernel_rfl | simp [Value.oneCell'])) ?_
      refine hK.out _ _ ?_
      clear hK K
      refine norm_ (a' := ?_) ?_ ?_
      rotate_left
      · show Act.put _ none _ = _
        simp only [Act.put]
        rfl
      refine done_ (by kernel_rfl) ?_
      go_wp2
      go_meet
      case rel =>
        have b2 := blk_below (blk_new w11.drew (.cells #[.int .i64 0, .int .i64 0, .int .i64 0, .int .i64 0, .string ⟨#[]⟩, .float .f64 0] 30)) hb
        have M1 := (M.out.below (below_drew1 (Below.refl _ _))).below ba
        exact ⟨w11.heap.size, b5, rfl, ⟨hb5⟩, ⟨setRow_blk b2⟩, ⟨(M1.below hb).row_at (by show w.heap.size ≤ w11.heap.size; exact M.out.O.K.1) hne (by have := blk_lt M.out.Z; omega) _⟩⟩
  case rest =>
    obtain ⟨gm, b5, rfl, HFB, HM, M⟩ := hcut
    have h := H.out
    have h6 := A6.out
    unfold rdMove.bad at h6
    simp only [List.getD_cons_zero, List.getD_cons_succ] at h h6
    clear H A6
    cases well
    · obtain rfl : true = bad := by simpa using h6
      obtain ⟨rfl, rfl, rfl, rfl⟩ := by simpa using h
      clear h h6
      have Z := M.out.Z
      unfold zMove at Z
      obtain ⟨q0, f0, q1, f1, q2, f2, q3, f3, q4, f4, q5, f5, hb6⟩ := six Z (.int .i64 0) (.int .i64 0) (.int .i64 0) (.int .i64 0) (.string ⟨#[]⟩) (.float .f64 0)
      have HB6 := Aside0.mk hb6
      clear Z hb6
      try go_wp2
      refine bodyPost_ret (results_ct (p := 2) (u := 3) (ty := 30) rfl _ _ w.heap.size 30 _ (0, 0) _ rfl HB6.out hu3 rfl INF.out) rfl ?_
      have O := (((((M.out.O.set 0 (.int .i64 0)).set 1 (.int .i64 0)).set 2 (.int .i64 0)).set 3 (.int .i64 0)).set 4 (.string ⟨#[]⟩)).set 5 (.float .f64 0)
      exact ⟨⟨0, rfl, FB_lit 0 0 (by kernel_rfl)⟩, O.I, O.B, O.K⟩
    · rw [if_neg (by simp)] at h6
      obtain ⟨cn, H7, h6⟩ := Option.bind_eq_some_iff.mp h6
      have A7 := Aside0.mk H7
      clear H7
      cases cn
      · obtain rfl : true = bad := by simpa using h6
        obtain ⟨rfl, rfl, rfl, rfl⟩ := by simpa using h
        clear h h6
        go_wp2_with (first | (go_at_call 64; (refine (bits_Canon.calls u _ _ A7.out).mono ?_); rintro e_ w13 ⟨rfl, hd⟩; have hb := drawn0_below hd; have n1_ := Aside0.mk (M.out.below hb); have n2_ := Aside0.mk (blk_below HM.out hb); clear M HM hb hd; have M := n1_; have HM := n2_; clear n1_ n2_; ((have Z := M.out.Z; unfold zMove at Z; obtain ⟨q0, f0, q1, f1, q2, f2, q3, f3, q4, f4, q5, f5, hb6⟩ := six Z (.int .i64 0) (.int .i64 0) (.int .i64 0) (.int .i64 0) (.string ⟨#[]⟩) (.float .f64 0); have HB6 := Aside0.mk hb6; clear Z hb6))))
        try go_wp2
        refine bodyPost_ret (results_ct (p := 2) (u := 3) (ty := 30) rfl _ _ w.heap.size 30 _ (0, 0) _ rfl HB6.out hu3 rfl INF.out) rfl ?_
        have O := (((((M.out.O.set 0 (.int .i64 0)).set 1 (.int .i64 0)).set 2 (.int .i64 0)).set 3 (.int .i64 0)).set 4 (.string ⟨#[]⟩)).set 5 (.float .f64 0)
        exact ⟨⟨0, rfl, FB_lit 0 0 (by kernel_rfl)⟩, O.I, O.B, O.K⟩
      · rw [if_neg (by simp)] at h6
        obtain ⟨o, H8, h6⟩ := Option.bind_eq_some_iff.mp h6
        have A8 := Aside0.mk H8
        clear H8
        cases o
        · obtain rfl : true = bad := by simpa using h6
          obtain ⟨rfl, rfl, rfl, rfl⟩ := by simpa using h
          clear h h6
          go_wp2_with (first | (go_at_call 64; (refine (bits_Canon.calls u _ _ A7.out).mono ?_); rintro e_ w13 ⟨rfl, hd⟩; have hb := drawn0_below hd; have n1_ := Aside0.mk (M.out.below hb); have n2_ := Aside0.mk (blk_below HM.out hb); clear M HM hb hd; have M := n1_; have HM := n2_; clear n1_ n2_; have m0 := (blk_cell HM.out 0).trans rfl; have m1 := (blk_cell HM.out 1).trans rfl; have m2 := (blk_cell HM.out 2).trans rfl; have m3 := (blk_cell HM.out 3).trans rfl; have m4 := (blk_cell HM.out 4).trans rfl; have m5 := (blk_cell HM.out 5).trans rfl) | (go_at_call 54; (refine (moves_One.calls x0 x1 x2 x3 name b5 fl _ _ HFB.out A8.out).mono ?_); rintro e_ w14 ⟨rfl, hb⟩; have n1_ := Aside0.mk (M.out.below hb); have n2_ := Aside0.mk (blk_below HM.out hb); clear M HM hb m0 m1 m2 m3 m4 m5; have M := n1_; have HM := n2_; clear n1_ n2_; ((have Z := M.out.Z; unfold zMove at Z; obtain ⟨q0, f0, q1, f1, q2, f2, q3, f3, q4, f4, q5, f5, hb6⟩ := six Z (.int .i64 0) (.int .i64 0) (.int .i64 0) (.int .i64 0) (.string ⟨#[]⟩) (.float .f64 0); have HB6 := Aside0.mk hb6; clear Z hb6))))
          try go_wp2
          refine bodyPost_ret (results_ct (p := 2) (u := 3) (ty := 30) rfl _ _ w.heap.size 30 _ (0, 0) _ rfl HB6.out hu3 rfl INF.out) rfl ?_
          have O := (((((M.out.O.set 0 (.int .i64 0)).set 1 (.int .i64 0)).set 2 (.int .i64 0)).set 3 (.int .i64 0)).set 4 (.string ⟨#[]⟩)).set 5 (.float .f64 0)
          exact ⟨⟨0, rfl, FB_lit 0 0 (by kernel_rfl)⟩, O.I, O.B, O.K⟩
        · obtain rfl : false = bad := by simpa using h6
          obtain ⟨rfl, rfl, rfl, rfl⟩ := by simpa using h
          clear h h6
          go_wp2_with (first | (go_at_call 64; (refine (bits_Canon.calls u _ _ A7.out).mono ?_); rintro e_ w13 ⟨rfl, hd⟩; have hb := drawn0_below hd; have n1_ := Aside0.mk (M.out.below hb); have n2_ := Aside0.mk (blk_below HM.out hb); clear M HM hb hd; have M := n1_; have HM := n2_; clear n1_ n2_; have m0 := (blk_cell HM.out 0).trans rfl; have m1 := (blk_cell HM.out 1).trans rfl; have m2 := (blk_cell HM.out 2).trans rfl; have m3 := (blk_cell HM.out 3).trans rfl; have m4 := (blk_cell HM.out 4).trans rfl; have m5 := (blk_cell HM.out 5).trans rfl) | (go_at_call 54; (refine (moves_One.calls x0 x1 x2 x3 name b5 fl _ _ HFB.out A8.out).mono ?_); rintro e_ w14 ⟨rfl, hb⟩; have n1_ := Aside0.mk (M.out.below hb); have n2_ := Aside0.mk (blk_below HM.out hb); clear M HM hb m0 m1 m2 m3 m4 m5; have M := n1_; have HM := n2_; clear n1_ n2_; have m0 := (blk_cell HM.out 0).trans rfl; have m1 := (blk_cell HM.out 1).trans rfl; have m2 := (blk_cell HM.out 2).trans rfl; have m3 := (blk_cell HM.out 3).trans rfl; have m4 := (blk_cell HM.out 4).trans rfl; have m5 := (blk_cell HM.out 5).trans rfl; ((have Z := M.out.Z; unfold zMove at Z; obtain ⟨q0, f0, q1, f1, q2, f2, q3, f3, q4, f4, q5, f5, hb6⟩ := six Z (.int .i64 x0) (.int .i64 x1) (.int .i64 x2) (.int .i64 x3) (.string name) (.float .f64 b5); have HB6 := Aside0.mk hb6; clear Z hb6))))
          refine bodyPost_ret (results_ct (p := 2) (u := 3) (ty := 30) rfl _ _ w.heap.size 30 _ (0, 0) _ rfl HB6.out hu3 rfl INF.out) rfl ?_
          have O := (((((M.out.O.set 0 (.int .i64 x0)).set 1 (.int .i64 x1)).set 2 (.int .i64 x2)).set 3 (.int .i64 x3)).set 4 (.string name)).set 5 (.float .f64 b5)
          exact ⟨⟨b5, rfl, HFB.out⟩, O.I, O.B, O.K⟩
def pack_Reader_Done.f (s0_0 : ByteArray) (s0_1 : Int) : Option (Int × ByteArray × Int) := (pack_Reader_Err.f s0_0 s0_1).bind fun bt161 => (if bt161.1 = 0 then ((pack_Reader_Left.f bt161.2.1 bt161.2.2).bind fun bt164 => (if bt164.1 = 0 then (some (bt161.1, bt164.2.1, bt164.2.2)) else (some (5, bt164.2.1, bt164.2.2)))) else (some (bt161.1, bt161.2.1, bt161.2.2)))
set_option maxHeartbeats 8000000 in
set_option maxRecDepth 100000 in
theorem pack_Reader_Done.calls (g : Nat) (s0_0 : ByteArray) (s0_1 : Int) (r1 : Int) (r2 : ByteArray) (r3 : Int) (w0 w : World) (hI : IsS85 w0 w g s0_0 s0_1) (hB : Below w0.heap.size w0 w) (h : pack_Reader_Done.f s0_0 s0_1 = some (r1, r2, r3)) :
    Calls Try.prog 34 #[.pointer (some ⟨g, 0, none⟩)] w fun e w' => e = .returned (.int .i64 r1) ∧ IsS85 w0 w' g r2 r3 ∧ Below w0.heap.size w0 w' ∧ KeepBut w w' g none := by
  have HI0 := Aside0.mk hI
  have HK := Aside0.mk (KeepBut.refl w g none)
  have HL := Aside0.mk hB.size
  clear hI
  have HW0 := Aside0.mk hB.size
  have HB := Aside0.mk hB
  clear hB
  have H : ((pack_Reader_Err.f s0_0 s0_1).bind fun bt161 => (if bt161.1 = 0 then ((pack_Reader_Left.f bt161.2.1 bt161.2.2).bind fun bt164 => (if bt164.1 = 0 then (some (bt161.1, bt164.2.1, bt164.2.2)) else (some (5, bt164.2.1, bt164.2.2)))) else (some (bt161.1, bt161.2.1, bt161.2.2)))) = some (r1, r2, r3) := h
  clear h
  replace H := Option.bind_eq_some_iff.mp H
  obtain ⟨⟨t161, t162, t163⟩, A20, H⟩ := H
  replace H : (if t161 = 0 then ((pack_Reader_Left.f t162 t163).bind fun bt164 => (if bt164.1 = 0 then (some (t161, bt164.2.1, bt164.2.2)) else (some (5, bt164.2.1, bt164.2.2)))) else (some (t161, t162, t163))) = some (r1, r2, r3) := H
  have A2 := Aside0.mk A20
  clear A20
  by_cases c3 : t161 = 0
  · rw [if_pos c3] at H
    have c3b0 : (t161 == 0) = true := beq_iff_eq.mpr c3
    have c3b1 : (t161 != 0) = false := bne_eq_false_iff_eq.mpr c3
    clear c3
    replace H := Option.bind_eq_some_iff.mp H
    obtain ⟨⟨t164, t165, t166⟩, A40, H⟩ := H
    replace H : (if t164 = 0 then (some (t161, t165, t166)) else (some (5, t165, t166))) = some (r1, r2, r3) := H
    have A4 := Aside0.mk A40
    clear A40
    by_cases c5 : t164 = 0
    · rw [if_pos c5] at H
      have c5b0 : (t164 == 0) = true := beq_iff_eq.mpr c5
      have c5b1 : (t164 != 0) = false := bne_eq_false_iff_eq.mpr c5
      clear c5
      simp only [Option.some.injEq, Prod.mk.injEq] at H
      obtain ⟨rfl, rfl, rfl⟩ := H
      go_enter Try.func34, Try.ntmps34
      go_wp2_with (first | ((with_reducible refine gate_callee (f := 31) rfl ?_); refine goesL_ (some 5) rfl rfl Try.func31 (by kernel_rfl) rfl #[.pointer (some ⟨g, 0, none⟩)] rfl (by (try simp only [List.map_toArray, List.map_cons, List.map_nil]); first | done | rfl | (simp only [List.length_drop, List.length_take]; rfl)) ?_; (with_reducible refine (pack_Reader_Err.calls g s0_0 s0_1 t161 t162 t163 w0 _ ?side1 ?side2 A2.out).mono ?_); (case side1 => repeat (first | (with_reducible first | exact HI0.out | apply IsS85.alloc | apply IsS85.drewN | apply IsS85.drew | apply IsS85.set_0 | apply IsS85.set_1) | exact HI0.out)); (case side2 => repeat (first | (with_reducible first | exact HB.out | apply below_alloc | apply pw_below_drewN | apply below_drew1 | refine below_set ?_ (IsS85.ge HI0.out)) | exact HB.out)); rintro e w6 ⟨rfl, hi, hb, hk⟩; refine ⟨_, rfl, ?_⟩; have n0_ := Aside0.mk (KeepBut.trans (by repeat (first | (with_reducible first | exact HK.out | apply KeepBut.set_ | apply keep_drewN | apply keep_drew | apply keep_alloc) | exact HK.out)) hk (.inl rfl)); have n1_ := Aside0.mk (hb); have n2_ := Aside0.mk (hi); clear HK; clear HB; clear HI0; have HK := n0_; have HB := n1_; have HI0 := n2_; clear n0_ n1_ n2_; (try clear hb); (try clear hb2); (try clear hk); (try clear hi)) | (go_at_call 69; (with_reducible refine (pack_Reader_Left.calls g t162 t163 t164 t165 t166 w0 _ ?side1 ?side2 A4.out).mono ?_); (case side1 => repeat (first | (with_reducible first | exact HI0.out | apply IsS85.alloc | apply IsS85.drewN | apply IsS85.drew | apply IsS85.set_0 | apply IsS85.set_1) | exact HI0.out)); (case side2 => repeat (first | (with_reducible first | exact HB.out | apply below_alloc | apply pw_below_drewN | apply below_drew1 | refine below_set ?_ (IsS85.ge HI0.out)) | exact HB.out)); rintro e w7 ⟨rfl, hi, hb, hk⟩; have n0_ := Aside0.mk (KeepBut.trans (by repeat (first | (with_reducible first | exact HK.out | apply KeepBut.set_ | apply keep_drewN | apply keep_drew | apply keep_alloc) | exact HK.out)) hk (.inl rfl)); have n1_ := Aside0.mk (hb); have n2_ := Aside0.mk (hi); clear HK; clear HB; clear HI0; have HK := n0_; have HB := n1_; have HI0 := n2_; clear n0_ n1_ n2_; (try clear hb); (try clear hb2); (try clear hk); (try clear hi)))
      go_ret
      exact ⟨by first | rfl | (simp [errW_none, errW_some] <;> rfl) | (simp [*, errW_none, errW_some] <;> rfl), by repeat (first | (with_reducible first | exact HI0.out | apply IsS85.alloc | apply IsS85.drewN | apply IsS85.drew | apply IsS85.set_0 | apply IsS85.set_1) | exact HI0.out), by repeat (first | (with_reducible first | exact HB.out | apply below_alloc | apply pw_below_drewN | apply below_drew1 | refine below_set ?_ (IsS85.ge HI0.out)) | exact HB.out), by repeat (first | (with_reducible first | exact HK.out | apply KeepBut.set_ | apply keep_drewN | apply keep_drew | apply keep_alloc) | exact HK.out)⟩
    · rw [if_neg c5] at H
      have c5b0 : (t164 == 0) = false := beq_eq_false_iff_ne.mpr c5
      have c5b1 : (t164 != 0) = true := bne_iff_ne.mpr c5
      simp only [Option.some.injEq, Prod.mk.injEq] at H
      obtain ⟨rfl, rfl, rfl⟩ := H
      go_enter Try.func34, Try.ntmps34
      go_wp2_with (first | ((with_reducible refine gate_callee (f := 31) rfl ?_); refine goesL_ (some 5) rfl rfl Try.func31 (by kernel_rfl) rfl #[.pointer (some ⟨g, 0, none⟩)] rfl (by (try simp only [List.map_toArray, List.map_cons, List.map_nil]); first | done | rfl | (simp only [List.length_drop, List.length_take]; rfl)) ?_; (with_reducible refine (pack_Reader_Err.calls g s0_0 s0_1 t161 t162 t163 w0 _ ?side1 ?side2 A2.out).mono ?_); (case side1 => repeat (first | (with_reducible first | exact HI0.out | apply IsS85.alloc | apply IsS85.drewN | apply IsS85.drew | apply IsS85.set_0 | apply IsS85.set_1) | exact HI0.out)); (case side2 => repeat (first | (with_reducible first | exact HB.out | apply below_alloc | apply pw_below_drewN | apply below_drew1 | refine below_set ?_ (IsS85.ge HI0.out)) | exact HB.out)); rintro e w8 ⟨rfl, hi, hb, hk⟩; refine ⟨_, rfl, ?_⟩; have n0_ := Aside0.mk (KeepBut.trans (by repeat (first | (with_reducible first | exact HK.out | apply KeepBut.set_ | apply keep_drewN | apply keep_drew | apply keep_alloc) | exact HK.out)) hk (.inl rfl)); have n1_ := Aside0.mk (hb); have n2_ := Aside0.mk (hi); clear HK; clear HB; clear HI0; have HK := n0_; have HB := n1_; have HI0 := n2_; clear n0_ n1_ n2_; (try clear hb); (try clear hb2); (try clear hk); (try clear hi)) | (go_at_call 69; (with_reducible refine (pack_Reader_Left.calls g t162 t163 t164 t165 t166 w0 _ ?side1 ?side2 A4.out).mono ?_); (case side1 => repeat (first | (with_reducible first | exact HI0.out | apply IsS85.alloc | apply IsS85.drewN | apply IsS85.drew | apply IsS85.set_0 | apply IsS85.set_1) | exact HI0.out)); (case side2 => repeat (first | (with_reducible first | exact HB.out | apply below_alloc | apply pw_below_drewN | apply below_drew1 | refine below_set ?_ (IsS85.ge HI0.out)) | exact HB.out)); rintro e w9 ⟨rfl, hi, hb, hk⟩; have n0_ := Aside0.mk (KeepBut.trans (by repeat (first | (with_reducible first | exact HK.out | apply KeepBut.set_ | apply keep_drewN | apply keep_drew | apply keep_alloc) | exact HK.out)) hk (.inl rfl)); have n1_ := Aside0.mk (hb); have n2_ := Aside0.mk (hi); clear HK; clear HB; clear HI0; have HK := n0_; have HB := n1_; have HI0 := n2_; clear n0_ n1_ n2_; (try clear hb); (try clear hb2); (try clear hk); (try clear hi)))
      go_ret
      exact ⟨by first | rfl | (simp [errW_none, errW_some] <;> rfl) | (simp [*, errW_none, errW_some] <;> rfl), by repeat (first | (with_reducible first | exact HI0.out | apply IsS85.alloc | apply IsS85.drewN | apply IsS85.drew | apply IsS85.set_0 | apply IsS85.set_1) | exact HI0.out), by repeat (first | (with_reducible first | exact HB.out | apply below_alloc | apply pw_below_drewN | apply below_drew1 | refine below_set ?_ (IsS85.ge HI0.out)) | exact HB.out), by repeat (first | (with_reducible first | exact HK.out | apply KeepBut.set_ | apply keep_drewN | apply keep_drew | apply keep_alloc) | exact HK.out)⟩
  · rw [if_neg c3] at H
    have c3b0 : (t161 == 0) = false := beq_eq_false_iff_ne.mpr c3
    have c3b1 : (t161 != 0) = true := bne_iff_ne.mpr c3
    simp only [Option.some.injEq, Prod.mk.injEq] at H
    obtain ⟨rfl, rfl, rfl⟩ := H
    go_enter Try.func34, Try.ntmps34
    go_wp2_with (first | ((with_reducible refine gate_callee (f := 31) rfl ?_); refine goesL_ (some 5) rfl rfl Try.func31 (by kernel_rfl) rfl #[.pointer (some ⟨g, 0, none⟩)] rfl (by (try simp only [List.map_toArray, List.map_cons, List.map_nil]); first | done | rfl | (simp only [List.length_drop, List.length_take]; rfl)) ?_; (with_reducible refine (pack_Reader_Err.calls g s0_0 s0_1 t161 t162 t163 w0 _ ?side1 ?side2 A2.out).mono ?_); (case side1 => repeat (first | (with_reducible first | exact HI0.out | apply IsS85.alloc | apply IsS85.drewN | apply IsS85.drew | apply IsS85.set_0 | apply IsS85.set_1) | exact HI0.out)); (case side2 => repeat (first | (with_reducible first | exact HB.out | apply below_alloc | apply pw_below_drewN | apply below_drew1 | refine below_set ?_ (IsS85.ge HI0.out)) | exact HB.out)); rintro e w10 ⟨rfl, hi, hb, hk⟩; refine ⟨_, rfl, ?_⟩; have n0_ := Aside0.mk (KeepBut.trans (by repeat (first | (with_reducible first | exact HK.out | apply KeepBut.set_ | apply keep_drewN | apply keep_drew | apply keep_alloc) | exact HK.out)) hk (.inl rfl)); have n1_ := Aside0.mk (hb); have n2_ := Aside0.mk (hi); clear HK; clear HB; clear HI0; have HK := n0_; have HB := n1_; have HI0 := n2_; clear n0_ n1_ n2_; (try clear hb); (try clear hb2); (try clear hk); (try clear hi)))
    go_ret
    exact ⟨by first | rfl | (simp [errW_none, errW_some] <;> rfl) | (simp [*, errW_none, errW_some] <;> rfl), by repeat (first | (with_reducible first | exact HI0.out | apply IsS85.alloc | apply IsS85.drewN | apply IsS85.drew | apply IsS85.set_0 | apply IsS85.set_1) | exact HI0.out), by repeat (first | (with_reducible first | exact HB.out | apply below_alloc | apply pw_below_drewN | apply below_drew1 | refine below_set ?_ (IsS85.ge HI0.out)) | exact HB.out), by repeat (first | (with_reducible first | exact HK.out | apply KeepBut.set_ | apply keep_drewN | apply keep_drew | apply keep_alloc) | exact HK.out)⟩
def rows_Decode.g (k : Nat) (S : ByteArray) : Nat → List S30 → ByteArray → Int → Option (List S30 × Int)
  | 0, l, s, e => (pack_Reader_Done.f s e).bind fun d => if d.1 ≠ 0 then some ([], d.1) else some (l, 0)
  | c + 1, l, s, e => (rdMove.f k S s e).bind fun r => if r.2.1 ≠ 0 then some ([], r.2.1) else
      (if l.length = 0 then some true else rank_Before.f (rd_T30 l ((l.length : Int) - 1)).f0.f0 (rd_T30 l ((l.length : Int) - 1)).f0.f1 r.1.f0.f0 r.1.f0.f1).bind fun b =>
        if b = false then some ([], 12) else rows_Decode.g k S c (l ++ [r.1]) r.2.2.1 r.2.2.2
def rows_Decode.f (k : Nat) (a0 : ByteArray) : Option (List S30 × Int) :=
  (chunk_Version.f a0).bind fun v => if v.2 ≠ 0 then some ([], v.2) else if v.1 ≠ 1 then some ([], 8) else if 5 ≤ (a0.size : Int) then
    (pack_New.f (a0.extract 5 a0.size)).bind fun p => (pack_Reader_Num.f p.1 p.2).bind fun q => if q.2.2 ≠ 0 then some ([], q.2.2) else if q.1 > 2000 then some ([], 10) else if q.1 < 0 then none else
      rows_Decode.g k a0 q.1.toNat [] q.2.1 q.2.2
  else none
theorem rdMove.mono (S s : ByteArray) (e : Int) (k : Nat) : LeO (rdMove.f k S s e) (rdMove.f (k + 1) S s e) := by
  unfold rdMove.f
  exact LeO.bind (LeO.refl _) fun r => LeO.ite (LeO.refl _) (LeO.bind (word_Take.mono _ _ _ _) fun q => LeO.refl _)
theorem rows_Decode.mono_g (S : ByteArray) (k c : Nat) : ∀ l s e, LeO (rows_Decode.g k S c l s e) (rows_Decode.g (k + 1) S c l s e) := by
  induction c with
  | zero => intro l s e; exact LeO.refl _
  | succ c ih =>
    intro l s e
    unfold rows_Decode.g
    exact LeO.bind (rdMove.mono _ _ _ _) fun r => LeO.ite (LeO.refl _) (LeO.bind (LeO.refl _) fun b => LeO.ite (LeO.refl _) (ih _ _ _))
theorem rows_Decode.mono : ∀ a0 k, LeO (rows_Decode.f k a0) (rows_Decode.f (k + 1) a0) := by
  intro a0 k
  unfold rows_Decode.f
  exact LeO.bind (LeO.refl _) fun v => LeO.ite (LeO.refl _) (LeO.ite (LeO.refl _) (LeO.ite (LeO.bind (LeO.refl _) fun p => LeO.bind (LeO.refl _) fun q => LeO.ite (LeO.refl _) (LeO.ite (LeO.refl _) (LeO.ite (LeO.refl _) (rows_Decode.mono_g _ _ _ _ _ _)))) (LeO.refl _)))
theorem IsRd.grown {w0 w w' : World} {gr gp : Nat} {S s : ByteArray} {e : Int} {row : Option Nat} (h : IsRd w0 w gr gp S s e) (hg : w.grownBy w' row) (h1 : some gr ≠ row) (h2 : some gp ≠ row) : IsRd w0 w' gr gp S s e :=
  ⟨blk_grown h.blk hg h1, h.st.grown hg h2⟩
def dcD.T20 : Bool × List (List Nat × List Nat) := (true, [([], []), ([0], [0]), ([1], [1]), ([2], [2]), ([2], [2]), ([4, 2], [2, 4]), ([3, 5, 2], [2, 3, 5]), ([6, 2], [2, 6]), ([7, 2], [2, 7]), ([2], [2]), ([9, 2], [2, 9]), ([8, 10, 2, 2], [2, 8, 10]), ([11, 2], [2, 11]), ([2, 12], [2, 12]), ([13, 11], [13])])
def dcD.B20 : List Nat := [0, 1, 3, 7, 7, 23, 63, 127, 255, 7, 519, 2047, 4095, 8191, 16383]
theorem dcD.tab20 : rtab .any (opsOf Try.f13 20) = dcD.T20 := by kernel_rfl
theorem dcD.bits20 : waitsOk dcD.T20.2 dcD.B20 = true := by kernel_rfl
set_option maxHeartbeats 8000000 in
set_option maxRecDepth 100000 in
theorem rows_Decode.calls (k : Nat) (a0 : ByteArray) (r1 : List S30) (r2 : Int) (w : World) (h : rows_Decode.f k a0 = some (r1, r2)) :
    Calls Try.prog 13 #[.string a0] w fun e w' => ∃ v0_ : Value, e = .returned (.tuple #[v0_, .int .i64 r2]) ∧ Kd.R k30 30 w' w.heap.size (fun _ => True) v0_ r1 ∧ Below w.heap.size w w' := by
  have hu := Try.underlying60
  have hu3 := Try.underlying30
  have hu4 := Try.underlying27
  unfold rows_Decode.f at h
  obtain ⟨⟨v, ev⟩, H1, h⟩ := Option.bind_eq_some_iff.mp h
  dsimp only at h
  have A1 := Aside0.mk H1
  have H := Aside0.mk h
  clear h H1
  by_cases hE : ev = 0
  case neg =>
    have h := H.out
    rw [if_pos hE] at h
    obtain ⟨rfl, rfl⟩ := by simpa using h
    clear h H
    go_enter Try.func13, Try.ntmps13
    go_wp2_with (first | (go_at_call 17; (refine (chunk_Version.calls a0 _ _ _ A1.out).mono ?_); rintro e_ w1 ⟨rfl, hd⟩; have HB := Aside0.mk hd.below; clear hd))
    go_ret2
    exact ⟨_, rfl, Kd.R_nil _ _ _ _ _, HB.out⟩
  subst hE
  have h := H.out
  rw [if_neg (by simp)] at h
  by_cases hV : v = 1
  case neg =>
    rw [if_pos hV] at h
    obtain ⟨rfl, rfl⟩ := by simpa using h
    clear h H
    go_enter Try.func13, Try.ntmps13
    go_wp2_with (first | (go_at_call 17; (refine (chunk_Version.calls a0 _ _ _ A1.out).mono ?_); rintro e_ w1 ⟨rfl, hd⟩; have HB := Aside0.mk hd.below; clear hd))
    go_ret2
    exact ⟨_, rfl, Kd.R_nil _ _ _ _ _, HB.out⟩
  subst hV
  rw [if_neg (by simp)] at h
  by_cases h5 : 5 ≤ (a0.size : Int)
  case neg => rw [if_neg h5] at h; exact absurd h (by simp)
  rw [if_pos h5] at h
  obtain ⟨⟨s1, e1⟩, H2, h⟩ := Option.bind_eq_some_iff.mp h
  obtain ⟨⟨n, s2, e2⟩, H3, h⟩ := Option.bind_eq_some_iff.mp h
  dsimp only at h H2 H3
  have A2 := Aside0.mk H2
  have A3 := Aside0.mk H3
  clear H H2 H3
  have H := Aside0.mk h
  clear h
  go_enter Try.func13, Try.ntmps13
  go_wp2_with (first | (go_at_call 17; (refine (chunk_Version.calls a0 _ _ _ A1.out).mono ?_); rintro e_ w1 ⟨rfl, hd⟩; have HB := Aside0.mk hd.below; clear hd) | (go_at_call 29; (refine (pack_New.calls _ s1 e1 w _ HB.out A2.out).mono ?_); rintro e_ w2 ⟨gp, rfl, hI, hB2, hb2⟩; clear HB) | ((with_reducible refine gate_dst (N := 31) rfl ?_); refine box_event ?hg (N := 31) ?hd (cs := #[.pointer (some ⟨gp, 0, none⟩), .string a0]) (t := 60) ?hr ?_; (case hd => rfl); (case hg => rfl); (case hr => first | (go_simp; done) | (go_simp; rfl)); intro gr hgr w3 hbox hb3; have HB := Aside0.mk (below_step hB2 hb3); have HI := Aside0.mk (show IsRd w w3 gr gp a0 s1 e1 from ⟨hbox, hI.below hb3⟩); have k0 := (blk_cell hbox 0).trans rfl; clear hI hB2 hb2 hbox hb3 hgr))
  refine (pack_Reader_Num.calls gp s1 e1 n s2 e2 w _ HI.out.st HB.out A3.out).mono ?_
  rintro e_ w4 ⟨rfl, hi, hb, hk⟩
  have n1_ := Aside0.mk (HI.out.step hk hi)
  have n2_ := Aside0.mk hb
  clear HI HB hi hb hk k0
  have HI := n1_
  have HB := n2_
  clear n1_ n2_
  have k0 := (blk_cell HI.out.blk 0).trans rfl
  by_cases hE : e2 = 0
  case neg =>
    have h := H.out
    rw [if_pos hE] at h
    obtain ⟨rfl, rfl⟩ := by simpa using h
    clear h H
    go_wp2_with (first | (go_at_call 31; (refine (pack_Reader_Err_any gp _ _ _ HI.out.st.1).mono ?_); rintro e_ w5 ⟨rfl, rfl⟩))
    go_ret2
    exact ⟨_, rfl, Kd.R_nil _ _ _ _ _, HB.out⟩
  subst hE
  have h := H.out
  rw [if_neg (by simp)] at h
  by_cases hn : n > 2000
  case pos =>
    rw [if_pos hn] at h
    obtain ⟨rfl, rfl⟩ := by simpa using h
    clear h H
    go_wp2_with (first | (go_at_call 31; (refine (pack_Reader_Err_any gp _ _ _ HI.out.st.1).mono ?_); rintro e_ w5 ⟨rfl, rfl⟩))
    go_ret2
    exact ⟨_, rfl, Kd.R_nil _ _ _ _ _, HB.out⟩
  rw [if_neg hn] at h
  by_cases hn0 : n < 0
  case pos => rw [if_pos hn0] at h; exact absurd h (by simp)
  rw [if_neg hn0] at h
  have h' := Aside0.mk h
  clear h H
  have H := h'
  clear h'
  go_wp2_with (first | (go_at_call 31; (refine (pack_Reader_Err_any gp _ _ _ HI.out.st.1).mono ?_); rintro e_ w5 ⟨rfl, hw5⟩; subst hw5))
  have HN := Aside0.mk (show 0 ≤ n ∧ n ≤ 2000 from ⟨by omega, by omega⟩)
  have HR := Aside0.mk (Kd.R_nil k30 30 w5 w.heap.size (fun q => q ≠ gr ∧ q ≠ gp))
  go_loopg [9, 51] (n.toNat + 1) (fun kq v9 v51 w' => ∃ (l : List S30) (c : Nat) (s : ByteArray) (e : Int), v51 = .int .i64 (l.length : Int) ∧ Aside0 (kq = c + 1 ∧ (l.length : Int) + c = n) ∧ Aside0 (rows_Decode.g k a0 c l s e = some (r1, r2)) ∧ Aside0 (Kd.R k30 30 w' w.heap.size (fun q => q ≠ gr ∧ q ≠ gp) v9 l) ∧ Aside0 (IsRd w w' gr gp a0 s e) ∧ Aside0 (Below w.heap.size w w'))
  case atStart => exact ⟨[], n.toNat, s2, 0, by simp, ⟨rfl, by have := HN.out; simp; omega⟩, H, HR, HI, HB⟩
  case round =>
    clear HI HB H HR k0
    obtain ⟨l, c, s, e, rfl, HK, H, HR, HI, HB⟩ := hrel
    have hk9 := HK.out
    have hnn := HN.out
    cases c with
    | zero =>
      have c1 : decide ((l.length : Int) < n) = false := decide_eq_false (by omega)
      have hG := H.out
      unfold rows_Decode.g at hG
      obtain ⟨⟨d, s', e'⟩, H9, hG⟩ := Option.bind_eq_some_iff.mp hG
      have A9 := Aside0.mk H9
      have k0 := (blk_cell HI.out.blk 0).trans rfl
      clear H H9
      dsimp only at hG
      by_cases hd : d = 0
      case neg =>
        rw [if_pos hd] at hG
        obtain ⟨rfl, rfl⟩ := by simpa using hG
        clear hG
        go_wp2_with (first | (go_at_call 34; (refine (pack_Reader_Done.calls gp s e _ s' e' w _ HI.out.st HB.out A9.out).mono ?_); rintro e_ w6 ⟨rfl, hi, hb, hk⟩; have n2_ := Aside0.mk hb; have n3_ := Aside0.mk (Kd.R_keep HR.out hk (fun _ h => h.2)); clear HB HR hi hb hk; have HB := n2_; have HR := n3_))
        go_ret2
        exact ⟨_, rfl, Kd.R_nil _ _ _ _ _, HB.out⟩
      subst hd
      rw [if_neg (by simp)] at hG
      obtain ⟨rfl, rfl⟩ := by simpa using hG
      clear hG
      go_wp2_with (first | (go_at_call 34; (refine (pack_Reader_Done.calls gp s e _ s' e' w _ HI.out.st HB.out A9.out).mono ?_); rintro e_ w6 ⟨rfl, hi, hb, hk⟩; have n2_ := Aside0.mk hb; have n3_ := Aside0.mk (Kd.R_keep HR.out hk (fun _ h => h.2)); clear HB HR hi hb hk; have HB := n2_; have HR := n3_))
      go_ret2
      exact ⟨_, rfl, Kd.R_mono HR.out (fun _ _ => trivial), HB.out⟩
    | succ c =>
      have c1 : decide ((l.length : Int) < n) = true := decide_eq_true (by omega)
      have hG := H.out
      unfold rows_Decode.g at hG
      obtain ⟨⟨m, er, s', e'⟩, H8, hG⟩ := Option.bind_eq_some_iff.mp hG
      have A8 := Aside0.mk H8
      clear H H8
      dsimp only at hG
      by_cases her : er = 0
      case neg =>
        rw [if_pos her] at hG
        obtain ⟨rfl, rfl⟩ := by simpa using hG
        clear hG
        go_wp2_with (first | (go_at_call 32; (refine (rdMove.calls k gr gp a0 s e m _ s' e' w _ HI.out HB.out A8.out).mono ?_); rintro e_ w6 ⟨⟨b, rfl, hfb⟩, hi, hb, hk⟩; have n1_ := Aside0.mk hi; have n2_ := Aside0.mk hb; have n3_ := Aside0.mk (Kd.R_keep HR.out hk (fun _ h => h.2)); have FBm := Aside0.mk hfb; clear HI HB HR hi hb hk hfb; have HI := n1_; have HB := n2_; have HR := n3_; clear n1_ n2_ n3_))
        go_ret2
        exact ⟨_, rfl, Kd.R_nil _ _ _ _ _, HB.out.alloc (below_size HB.out) _⟩
      subst her
      rw [if_neg (by simp)] at hG
      obtain ⟨bf, H7, hG⟩ := Option.bind_eq_some_iff.mp hG
      have A7 := Aside0.mk H7
      have A9 := Aside0.mk hG
      clear H7 hG
      go_wp2_with (first | (go_at_call 32; (refine (rdMove.calls k gr gp a0 s e m _ s' e' w _ HI.out HB.out A8.out).mono ?_); rintro e_ w6 ⟨⟨b, rfl, hfb⟩, hi, hb, hk⟩; have n1_ := Aside0.mk hi; have n2_ := Aside0.mk hb; have n3_ := Aside0.mk (Kd.R_keep HR.out hk (fun _ h => h.2)); have FBm := Aside0.mk hfb; clear HI HB HR hi hb hk hfb; have HI := n1_; have HB := n2_; have HR := n3_; clear n1_ n2_ n3_))
      have HMn := Aside0.mk (show gr < w6.heap.size ∧ gp < w6.heap.size from ⟨blk_lt HI.out.blk, blk_lt HI.out.st.1⟩)
      obtain ⟨gm, hgm⟩ : ∃ g, g = w6.heap.size := ⟨_, rfl⟩
      have hbk := blk_new w6 (.cells #[.int .i64 m.f0.f0, .int .i64 m.f0.f1, .int .i64 m.f1, .int .i64 m.f2, .string m.f3, .float .f64 b] 30)
      have hba := below_alloc (Below.refl w6.heap.size w6) (.cells #[.int .i64 m.f0.f0, .int .i64 m.f0.f1, .int .i64 m.f1, .int .i64 m.f2, .string m.f3, .float .f64 b] 30)
      rw [← hgm] at hbk ⊢
      generalize w6.alloc (.cells #[.int .i64 m.f0.f0, .int .i64 m.f0.f1, .int .i64 m.f1, .int .i64 m.f2, .string m.f3, .float .f64 b] 30) = w7 at hbk hba ⊢
      have n0_ := Aside0.mk (HI.out.below hba)
      have n1_ := Aside0.mk (below_step HB.out hba)
      have n2_ := Aside0.mk (Kd.R_below (Kd.R_elderB HR.out gm (Nat.le_of_eq hgm.symm)) hba)
      have BK := Aside0.mk hbk
      have NG := Aside0.mk (show gr ≠ gm ∧ gp ≠ gm from by have := HMn.out; omega)
      clear HI HB HR hbk hba HMn hgm
      have HI := n0_
      have HB := n1_
      have HR := n2_
      clear n0_ n1_ n2_
      have HF := Aside0.mk (show ∀ q, w7.heap.size ≤ q → ((q ≠ gr ∧ q ≠ gp) ∧ q ≠ gm) from fun q hq => by have := blk_lt BK.out; have := blk_lt HI.out.blk; have := blk_lt HI.out.st.1; omega)
      obtain ⟨Ao, co, eo⟩ := Kd.R_slice HR.out
      subst eo
      by_cases hl : l.length = 0
      · have H7x := A7.out
        have HGx := A9.out
        rw [if_pos hl] at H7x
        obtain rfl : true = bf := by simpa using H7x
        rw [if_neg (by simp)] at HGx
        have H := Aside0.mk HGx
        clear HGx H7x
        have g0 : decide (0 < (l.length : Int)) = false := decide_eq_false (by omega)
        have k5 := (blk_cell BK.out 0).trans rfl
        go_quiet (fail)
        generalize hW8 : w7.drewN _ = w8
        have hba : Below w7.heap.size w7 w8 := by rw [← hW8]; exact pw_below_drewN (Below.refl _ _) _
        clear hW8
        have n0_ := Aside0.mk (HI.out.below hba)
        have n1_ := Aside0.mk (below_step HB.out hba)
        have n2_ := Aside0.mk (Kd.R_below HR.out hba)
        have n3_ := Aside0.mk (blk_below BK.out hba)
        clear HI HB HR BK HF k5 hba
        have HI := n0_
        have HB := n1_
        have HR := n2_
        have BK := n3_
        clear n0_ n1_ n2_ n3_
        have HF := Aside0.mk (show ∀ q, w8.heap.size ≤ q → ((q ≠ gr ∧ q ≠ gp) ∧ q ≠ gm) from fun q hq => by have := blk_lt BK.out; have := blk_lt HI.out.blk; have := blk_lt HI.out.st.1; omega)
        have m0 := (blk_cell BK.out 0).trans rfl
        have m1 := (blk_cell BK.out 1).trans rfl
        have m2 := (blk_cell BK.out 2).trans rfl
        have m3 := (blk_cell BK.out 3).trans rfl
        have m4 := (blk_cell BK.out 4).trans rfl
        have m5 := (blk_cell BK.out 5).trans rfl
        go_wp2_with (first | ((with_reducible refine gate_builtin (b := .append) (xs := #[.tmp 78, .tmp 80]) rfl ?_); at_builtin; refine Kd.R_append k30 (w0 := w) w.heap.size rfl (.tmp 78) (.tmp 80) 22 30 (.agg #[(.int .i64 0), (.int .i64 0), (.int .i64 0), (.int .i64 0), (.string ⟨#[]⟩), (.float .f64 0)]) 56 rfl Try.underlying22 info30 rfl (by decide) (by omega) (.slice Ao l.length co) l m [.int .i64 m.f0.f0, .int .i64 m.f0.f1, .int .i64 m.f1, .int .i64 m.f2, .string m.f3, .float .f64 b] (fun q => (q ≠ gr ∧ q ≠ gp) ∧ q ≠ gm) (fun _ => False) rfl rfl ?aP (fun _ hk => hk.elim) ?aF ?aO ?aB ?aS ?aL ?_; (case aP => exact k30_mkM _ _ _ m FBm.out); (case aB => exact HB.out); (case aF => exact HF.out); (case aO => exact HR.out); (case aS => exact below_size HB.out); (case aL => omega); intro v1_ w9 ho hb hg hat; have n0_ := Aside0.mk (IsRd.grown HI.out hg (Kd.R_away HR.out (fun _ hk => hk.1.1)) (Kd.R_away HR.out (fun _ hk => hk.1.2))); have n1_ := Aside0.mk hb; have n2_ := Aside0.mk (Kd.R_mono ho (fun _ hk => hk.1)); clear HI HB HR ho hb hg hat; have HI := n0_; have HB := n1_; have HR2 := n2_; clear n0_ n1_ n2_))
        go_roundg (c + 1)
        case measure => have := HK.out; omega
        case rel => exact ⟨l ++ [m], c, s', e', by simp [hl], ⟨rfl, by have := HK.out; simp; omega⟩, H, HR2, HI, HB⟩
      · have H7x := A7.out
        rw [if_neg hl] at H7x
        have H7 := H7x
        clear H7x A7
        have g0' : 0 < l.length := by omega
        obtain ⟨ji, hji⟩ : ∃ j : Int, IntKind.i64.wrap ((l.length : Int) - 1) = j := ⟨_, rfl⟩
        have ej : (l.length : Int) - 1 = ji := by rw [← hji, Go.IntWalk.i64_in _ (by omega)]
        rw [ej] at H7
        have p0 : (0 : Int) ≤ ji := by omega
        have q0 : ji < (l.length : Int) := by omega
        clear ej
        obtain ⟨ad, b5, e5, hx0, hx1, hx2, hx3, hx4, hx5, bq5⟩ := at_T30 (Kd.R_reads' HR.out).2.2 ji p0 q0
        subst e5
        replace p0 := eq_true p0
        replace q0 := eq_true q0
        clear hx2 hx3 hx4 hx5
        replace H7 := Aside0.mk H7
        have m0 := (blk_cell BK.out 0).trans rfl
        have m1 := (blk_cell BK.out 1).trans rfl
        simp only [Array.getElem?_toList, List.getElem?_toArray, List.getElem?_cons_zero, List.getElem?_cons_succ] at m0 m1
        refine start_ (n := 15) (S := fun w' => w'.cell? ⟨gm, 0, none⟩ = some (.int .i64 m.f0.f0) ∧ w'.cell? ⟨gm, 1, none⟩ = some (.int .i64 m.f0.f1) ∧ w'.cell? (ad.add (ji.toNat * 6)) = some (.int .i64 (rd_T30 l ji).f0.f0) ∧ w'.cell? ⟨(ad.add (ji.toNat * 6)).block, (ad.add (ji.toNat * 6)).off + 1, none⟩ = some (.int .i64 (rd_T30 l ji).f0.f1)) (ds := []) #[false, false, false, false, false, false, false, false, false, false, false, false, false, false, false] (by kernel_rfl) rfl rfl ⟨m0, m1, hx0, hx1⟩ (fun hHeld => ?_)
        refine with_tabW dcD.tab20 dcD.bits20 (fun HT_ HW_ => ?_)
        refine pure_ (i := 0) (N := some 64) (v := ?_) (a' := ?_) #[true, false, false, false, false, false, false, false, false, false, false, false, false, false, false] rfl rfl (any_of HT_.out (by kernel_rfl)) (fun _ _ _ h => h) (Or.inl ⟨by rfl, ?_⟩) ?_ ?_
        rotate_left
        · intro w'
          go_simp
          with_reducible rfl
        rotate_left
        · simp only [Act.put, List.setIfInBounds_toArray, List.set_cons_zero, List.set_cons_succ, i64_w, i32_w]
          rfl
        refine pure_ (i := 1) (N := some 65) (v := .bool true) (a' := ?_) #[true, true, false, false, false, false, false, false, false, false, false, false, false, false, false] rfl rfl (any_of HT_.out (by kernel_rfl)) (fun _ _ _ h => h) (Or.inl ⟨by rfl, ?_⟩) ?_ ?_
        · intro w'
          go_simp
          try first | exact g0' | rw [decide_eq_true g0']
        rotate_left
        · simp only [Act.put, List.setIfInBounds_toArray, List.set_cons_zero, List.set_cons_succ, i64_w, i32_w]
          rfl
        refine pure_ (i := 2) (N := some 66) (v := ?_) (a' := ?_) #[true, true, true, false, false, false, false, false, false, false, false, false, false, false, false] rfl rfl (any_of HT_.out (by kernel_rfl)) (fun _ _ _ h => h) (Or.inl ⟨by rfl, ?_⟩) ?_ ?_
        rotate_left
        · intro w'
          go_simp
          with_reducible rfl
        rotate_left
        · simp only [Act.put, List.setIfInBounds_toArray, List.set_cons_zero, List.set_cons_succ, i64_w, i32_w]
          rfl
        refine pure_ (i := 3) (N := some 67) (v := ?_) (a' := ?_) #[true, true, true, true, false, false, false, false, false, false, false, false, false, false, false] rfl rfl (any_of HT_.out (by kernel_rfl)) (fun _ _ _ h => h) (Or.inl ⟨by kernel_rfl, ?_⟩) ?_ ?_
        rotate_left
        · intro w'
          go_simp
          with_reducible rfl
        rotate_left
        · simp only [Act.put, List.setIfInBounds_toArray, List.set_cons_zero, List.set_cons_succ, i64_w, i32_w]
          rfl
        refine pure_ (i := 4) (N := some 68) (v := ?_) (a' := ?_) #[true, true, true, true, true, false, false, false, false, false, false, false, false, false, false] rfl rfl (any_of HT_.out (by kernel_rfl)) (fun _ _ _ h => h) (Or.inl ⟨by kernel_rfl, ?_⟩) ?_ ?_
        rotate_left
        · intro w'
          go_simp
          with_reducible rfl
        rotate_left
        · simp only [Act.put, List.setIfInBounds_toArray, List.set_cons_zero, List.set_cons_succ, i64_w, i32_w]
          rfl
        refine pure_ (i := 5) (N := some 69) (v := ?_) (a' := ?_) #[true, true, true, true, true, true, false, false, false, false, false, false, false, false, false] rfl rfl (any_of HT_.out (by kernel_rfl)) (fun _ _ _ h => h) (Or.inl ⟨by kernel_rfl, ?_⟩) ?_ ?_
        rotate_left
        · intro w'
          go_simp
          with_reducible rfl
        rotate_left
        · simp only [Act.put, List.setIfInBounds_toArray, List.set_cons_zero, List.set_cons_succ, i64_w, i32_w]
          rfl
        refine pure_ (i := 6) (N := some 70) (v := ?_) (a' := ?_) #[true, true, true, true, true, true, true, false, false, false, false, false, false, false, false] rfl rfl (any_of HT_.out (by kernel_rfl)) (fun _ _ _ h => h) (Or.inl ⟨by kernel_rfl, ?_⟩) ?_ ?_
        rotate_left
        · intro w'
          go_simp
          with_reducible rfl
        rotate_left
        · simp only [Act.put, List.setIfInBounds_toArray, List.set_cons_zero, List.set_cons_succ, i64_w, i32_w]
          rfl
        refine pure_ (i := 7) (N := some 71) (v := ?_) (a' := ?_) #[true, true, true, true, true, true, true, true, false, false, false, false, false, false, false] rfl rfl (any_of HT_.out (by kernel_rfl)) (fun _ _ _ h => h) (Or.inl ⟨by kernel_rfl, ?_⟩) ?_ ?_
        rotate_left
        · intro w'
          go_simp
          with_reducible rfl
        rotate_left
        · simp only [Act.put, List.setIfInBounds_toArray, List.set_cons_zero, List.set_cons_succ, i64_w, i32_w]
          rfl
        refine pure_ (i := 9) (N := some 73) (v := ?_) (a' := ?_) #[true, true, true, true, true, true, true, true, false, true, false, false, false, false, false] rfl rfl (any_of HT_.out (by kernel_rfl)) (fun _ _ _ h => h) (Or.inl ⟨by kernel_rfl, ?_⟩) ?_ ?_
        rotate_left
        · intro w'
          go_simp
          with_reducible rfl
        rotate_left
        · simp only [Act.put, List.setIfInBounds_toArray, List.set_cons_zero, List.set_cons_succ, i64_w, i32_w]
          rfl
        refine take_ (i := 8) (N := some 72) (v := ?_) (a' := ?_) #[true, true, true, true, true, true, true, true, true, true, false, false, false, false, false] rfl rfl (take_ofW HT_.out HW_.out (by kernel_rfl)) (fun _ _ _ h => h) (Or.inl ⟨by kernel_rfl, ?_⟩) hHeld ?_ ?_
        rotate_left
        · rintro w' ⟨s0, s1, s2, s3⟩
          go_simp
          with_reducible rfl
        rotate_left
        · simp only [Act.put, List.setIfInBounds_toArray, List.set_cons_zero, List.set_cons_succ, i64_w, i32_w]
          rfl
        refine take_ (i := 10) (N := some 74) (v := ?_) (a' := ?_) #[true, true, true, true, true, true, true, true, true, true, true, false, false, false, false] rfl rfl (take_ofW HT_.out HW_.out (by kernel_rfl)) (fun _ _ _ h => h) (Or.inl ⟨by kernel_rfl, ?_⟩) hHeld ?_ ?_
        rotate_left
        · rintro w' ⟨s0, s1, s2, s3⟩
          go_simp
          with_reducible rfl
        rotate_left
        · simp only [Act.put, List.setIfInBounds_toArray, List.set_cons_zero, List.set_cons_succ, i64_w, i32_w]
          rfl
        refine one_ (i := 11) (N := some 75) #[true, true, true, true, true, true, true, true, true, true, true, true, false, false, false] rfl rfl (one_of HT_.out (by kernel_rfl)) (by decide) (fun K hK => ?_)
        refine goes_ Try.func33 (by kernel_rfl) rfl #[.agg #[.int .i64 (rd_T30 l ji).f0.f0, .int .i64 (rd_T30 l ji).f0.f1], .agg #[.int .i64 m.f0.f0, .int .i64 m.f0.f1]] (by kernel_rfl) rfl rfl (by (try simp only [List.map_toArray, List.map_cons, List.map_nil]); first | done | rfl) ?_
        with_reducible refine (rank_Before.calls _ _ _ _ bf _ H7.out).mono ?_
        rintro e w8 ⟨rfl, hb⟩
        refine ⟨_, rfl, ?_⟩
        have q0_ := (hb.cell (World.block_lt_of_cell? _ _ hHeld.1)).trans hHeld.1
        have q1_ := (hb.cell (World.block_lt_of_cell? _ _ hHeld.2.1)).trans hHeld.2.1
        have q2_ := (hb.cell (World.block_lt_of_cell? _ _ hHeld.2.2.1)).trans hHeld.2.2.1
        have q3_ := (hb.cell (World.block_lt_of_cell? _ _ hHeld.2.2.2)).trans hHeld.2.2.2
        have hba := below_step (below_drew1 (Below.refl w7.heap.size w7)) hb
        have n0_ := Aside0.mk (HI.out.below hba)
        have n1_ := Aside0.mk (below_step HB.out hba)
        have n2_ := Aside0.mk (Kd.R_below HR.out hba)
        have n3_ := Aside0.mk (blk_below BK.out hba)
        clear HI HB HR BK HF hba hb
        have HI := n0_
        have HB := n1_
        have HR := n2_
        have BK := n3_
        clear n0_ n1_ n2_ n3_
        refine hK.out _ _ ⟨q0_, q1_, q2_, q3_⟩ (fun hHeld => ?_)
        clear hK K
        refine norm_ (a' := ?_) ?_ ?_
        rotate_left
        · show Act.put _ (some 75) _ = _
          simp only [Act.put, List.setIfInBounds_toArray, List.set_cons_zero, List.set_cons_succ, i64_w, i32_w]
          rfl
        refine pure_ (i := 12) (N := some 76) (v := ?_) (a' := ?_) #[true, true, true, true, true, true, true, true, true, true, true, true, true, false, false] rfl rfl (any_of HT_.out (by kernel_rfl)) (fun _ _ _ h => h) (Or.inl ⟨by kernel_rfl, ?_⟩) ?_ ?_
        rotate_left
        · intro w'
          go_simp
          with_reducible rfl
        rotate_left
        · simp only [Act.put, List.setIfInBounds_toArray, List.set_cons_zero, List.set_cons_succ, i64_w, i32_w]
          rfl
        refine pure_ (i := 13) (N := some 77) (v := ?_) (a' := ?_) #[true, true, true, true, true, true, true, true, true, true, true, true, true, true, false] rfl rfl (any_of HT_.out (by kernel_rfl)) (fun _ _ _ h => h) (Or.inl ⟨by rfl, ?_⟩) ?_ ?_
        rotate_left
        · intro w'
          go_simp
          with_reducible rfl
        rotate_left
        · simp only [Act.put, List.setIfInBounds_toArray, List.set_cons_zero, List.set_cons_succ, i64_w, i32_w]
          rfl
        refine pure_ (i := 14) (N := some 63) (v := ?_) (a' := ?_) #[true, true, true, true, true, true, true, true, true, true, true, true, true, true, true] rfl rfl (any_of HT_.out (by kernel_rfl)) (fun _ _ _ h => h) (Or.inl ⟨by rfl, ?_⟩) ?_ ?_
        rotate_left
        · intro w'
          go_simp
          with_reducible rfl
        rotate_left
        · simp only [Act.put, List.setIfInBounds_toArray, List.set_cons_zero, List.set_cons_succ, i64_w, i32_w]
          rfl
        refine done_ (done_of HT_.out (by kernel_rfl)) ?_
        clear hHeld m0 m1 hx0 hx1
        have HF := Aside0.mk (show ∀ q, w8.heap.size ≤ q → ((q ≠ gr ∧ q ≠ gp) ∧ q ≠ gm) from fun q hq => by have := blk_lt BK.out; have := blk_lt HI.out.blk; have := blk_lt HI.out.st.1; omega)
        have HGx := A9.out
        cases bf
        · rw [if_pos rfl] at HGx
          obtain ⟨rfl, rfl⟩ := by simpa using HGx
          clear HGx
          go_wp2
          go_ret2
          exact ⟨_, rfl, Kd.R_nil _ _ _ _ _, HB.out⟩
        rw [if_neg (by simp)] at HGx
        have H := Aside0.mk HGx
        clear HGx A9
        have m0 := (blk_cell BK.out 0).trans rfl
        have m1 := (blk_cell BK.out 1).trans rfl
        have m2 := (blk_cell BK.out 2).trans rfl
        have m3 := (blk_cell BK.out 3).trans rfl
        have m4 := (blk_cell BK.out 4).trans rfl
        have m5 := (blk_cell BK.out 5).trans rfl
        go_wp2_with (first | ((with_reducible refine gate_builtin (b := .append) (xs := #[.tmp 78, .tmp 80]) rfl ?_); at_builtin; refine Kd.R_append k30 (w0 := w) w.heap.size rfl (.tmp 78) (.tmp 80) 22 30 (.agg #[(.int .i64 0), (.int .i64 0), (.int .i64 0), (.int .i64 0), (.string ⟨#[]⟩), (.float .f64 0)]) 56 rfl Try.underlying22 info30 rfl (by decide) (by omega) (.slice (some ad) l.length co) l m [.int .i64 m.f0.f0, .int .i64 m.f0.f1, .int .i64 m.f1, .int .i64 m.f2, .string m.f3, .float .f64 b] (fun q => (q ≠ gr ∧ q ≠ gp) ∧ q ≠ gm) (fun _ => False) rfl rfl ?aP (fun _ hk => hk.elim) ?aF ?aO ?aB ?aS ?aL ?_; (case aP => exact k30_mkM _ _ _ m FBm.out); (case aB => exact HB.out); (case aF => exact HF.out); (case aO => exact HR.out); (case aS => exact below_size HB.out); (case aL => omega); intro v1_ w9 ho hb hg hat; have n0_ := Aside0.mk (IsRd.grown HI.out hg (Kd.R_away HR.out (fun _ hk => hk.1.1)) (Kd.R_away HR.out (fun _ hk => hk.1.2))); have n1_ := Aside0.mk hb; have n2_ := Aside0.mk (Kd.R_mono ho (fun _ hk => hk.1)); clear HI HB HR ho hb hg hat; have HI := n0_; have HB := n1_; have HR2 := n2_; clear n0_ n1_ n2_))
        go_roundg (c + 1)
        case measure => have := HK.out; omega
        case rel => exact ⟨l ++ [m], c, s', e', by simp, ⟨rfl, by have := HK.out; simp; omega⟩, H, HR2, HI, HB⟩
def bonsairef13_Row.f (a0_0 : Int) (a0_1 : Int) (a0_2 : Int) (a0_3 : Int) (a0_4 : ByteArray) (a0_5 : Int) : Option (Int × Int × ByteArray × Int) := some (a0_3, a0_2, a0_4, a0_5)
set_option maxHeartbeats 8000000 in
set_option maxRecDepth 100000 in
theorem bonsairef13_Row.calls (a0_0 : Int) (a0_1 : Int) (a0_2 : Int) (a0_3 : Int) (a0_4 : ByteArray) (bv0_5 : Nat) (a0_5 : Int) (r1 : Int) (r2 : Int) (r3 : ByteArray) (r4 : Int) (w : World) (bq0_5 : FB bv0_5 a0_5) (h : bonsairef13_Row.f a0_0 a0_1 a0_2 a0_3 a0_4 a0_5 = some (r1, r2, r3, r4)) :
    Calls Try.prog 74 #[.agg #[.int .i64 a0_0, .int .i64 a0_1, .int .i64 a0_2, .int .i64 a0_3, .string a0_4, .float .f64 bv0_5]] w fun e w' => ∃ b3_ : Nat, e = .returned (.agg #[.int .i64 r1, .int .i64 r2, .string r3, .float .f64 b3_]) ∧ FB b3_ r4 ∧ Below w.heap.size w w' := by
  have hu30 := Try.underlying30
  have hu96 := Try.underlying96
  have HB := Aside0.mk (Below.refl w.heap.size w)
  have H : (some (a0_3, a0_2, a0_4, a0_5)) = some (r1, r2, r3, r4) := h
  clear h
  simp only [Option.some.injEq, Prod.mk.injEq] at H
  obtain ⟨rfl, rfl, rfl, rfl⟩ := H
  go_enter Try.func74, Try.ntmps74
  go_wp2_with (first | ((with_reducible refine gate_dst (N := 1) rfl ?_); refine box_event ?hg (N := 1) ?hd (cs := #[.int .i64 a0_0, .int .i64 a0_1, .int .i64 a0_2, .int .i64 a0_3, .string a0_4, .float .f64 bv0_5]) (t := 30) ?hr ?_; (case hd => rfl); (case hg => rfl); (case hr => first | (go_simp; done) | (go_simp; rfl)); intro gb167 hg w2 hbox hb; have n0_ := Aside0.mk (below_step (by repeat (first | (with_reducible first | exact HB.out | apply below_alloc | apply pw_below_drewN | apply below_drew1) | exact HB.out)) hb); have n1_ := Aside0.mk (hbox); have n2_ := Aside0.mk ((by rw [hg]; exact (below_size (by repeat (first | (with_reducible first | exact HB.out | apply below_alloc | apply pw_below_drewN | apply below_drew1) | exact HB.out))) : w.heap.size ≤ gb167)); have n3_ := Aside0.mk ((by rw [hg]; exact (below_size (by repeat (first | (with_reducible first | exact HB.out | apply below_alloc | apply pw_below_drewN | apply below_drew1) | exact HB.out))) : w.heap.size ≤ gb167)); clear HB; have HB := n0_; have BK167 := n1_; have GW167 := n2_; have GE167 := n3_; clear n0_ n1_ n2_ n3_; clear hb hbox hg) | ((with_reducible refine gate_dst (N := 2) rfl ?_); refine box_event ?hg (N := 2) ?hd (cs := #[.int .i64 0, .int .i64 0, .string (⟨#[]⟩ : ByteArray), .float .f64 0]) (t := 96) ?hr ?_; (case hd => rfl); (case hg => rfl); (case hr => first | (go_simp; done) | (go_simp; rfl)); intro gb168 hg w3 hbox hb; have n0_ := Aside0.mk (blk_below (g := gb167) (o := .cells #[.int .i64 a0_0, .int .i64 a0_1, .int .i64 a0_2, .int .i64 a0_3, .string a0_4, .float .f64 bv0_5] 30 (0, 0)) (by (with_reducible repeat (first | refine blk_drewN ?_ _ | refine blk_drew ?_ | refine blk_alloc ?_ _)); exact BK167.out) hb); have n1_ := Aside0.mk (below_step (by repeat (first | (with_reducible first | exact HB.out | apply below_alloc | apply pw_below_drewN | apply below_drew1 | refine below_set ?_ GE167.out) | exact HB.out)) hb); have n2_ := Aside0.mk (hbox); have n3_ := Aside0.mk ((by rw [hg]; exact (below_size (by repeat (first | (with_reducible first | exact HB.out | apply below_alloc | apply pw_below_drewN | apply below_drew1 | refine below_set ?_ GE167.out) | exact HB.out))) : w.heap.size ≤ gb168)); have n4_ := Aside0.mk ((by rw [hg]; exact (below_size (by repeat (first | (with_reducible first | exact HB.out | apply below_alloc | apply pw_below_drewN | apply below_drew1 | refine below_set ?_ GE167.out) | exact HB.out))) : w.heap.size ≤ gb168)); have n5_ := Aside0.mk ((by rw [hg]; exact Nat.ne_of_lt (blk_lt (g := gb167) (o := .cells #[.int .i64 a0_0, .int .i64 a0_1, .int .i64 a0_2, .int .i64 a0_3, .string a0_4, .float .f64 bv0_5] 30 (0, 0)) (by (with_reducible repeat (first | refine blk_drewN ?_ _ | refine blk_drew ?_ | refine blk_alloc ?_ _)); exact BK167.out)) : gb167 ≠ gb168)); have n6_ := Aside0.mk ((by rw [hg]; exact Nat.ne_of_gt (blk_lt (g := gb167) (o := .cells #[.int .i64 a0_0, .int .i64 a0_1, .int .i64 a0_2, .int .i64 a0_3, .string a0_4, .float .f64 bv0_5] 30 (0, 0)) (by (with_reducible repeat (first | refine blk_drewN ?_ _ | refine blk_drew ?_ | refine blk_alloc ?_ _)); exact BK167.out)) : gb168 ≠ gb167)); clear BK167; clear HB; have BK167 := n0_; have HB := n1_; have BK168 := n2_; have GW168 := n3_; have GE168 := n4_; have NB167_168 := n5_; have NB168_167 := n6_; clear n0_ n1_ n2_ n3_ n4_ n5_ n6_; clear hb hbox hg; have hnb4 := NB167_168.out; have hnc4 := NB168_167.out; have hcz5_0 : w3.cell? ⟨gb167, 0, none⟩ = some (.int .i64 a0_0) := (blk_cell BK167.out 0).trans rfl; have hcz5_1 : w3.cell? ⟨gb167, 1, none⟩ = some (.int .i64 a0_1) := (blk_cell BK167.out 1).trans rfl; have hcz5_2 : w3.cell? ⟨gb167, 2, none⟩ = some (.int .i64 a0_2) := (blk_cell BK167.out 2).trans rfl; have hcz5_3 : w3.cell? ⟨gb167, 3, none⟩ = some (.int .i64 a0_3) := (blk_cell BK167.out 3).trans rfl; have hcz5_4 : w3.cell? ⟨gb167, 4, none⟩ = some (.string a0_4) := (blk_cell BK167.out 4).trans rfl; have hcz5_5 : w3.cell? ⟨gb167, 5, none⟩ = some (.float .f64 bv0_5) := (blk_cell BK167.out 5).trans rfl; have hfz5_0 := blk_frozen BK167.out 0; have hfz5_1 := blk_frozen BK167.out 1; have hfz5_2 := blk_frozen BK167.out 2; have hfz5_3 := blk_frozen BK167.out 3; have hfz5_4 := blk_frozen BK167.out 4; have hfz5_5 := blk_frozen BK167.out 5; have hcz6_0 : w3.cell? ⟨gb168, 0, none⟩ = some (.int .i64 0) := (blk_cell BK168.out 0).trans rfl; have hcz6_1 : w3.cell? ⟨gb168, 1, none⟩ = some (.int .i64 0) := (blk_cell BK168.out 1).trans rfl; have hcz6_2 : w3.cell? ⟨gb168, 2, none⟩ = some (.string (⟨#[]⟩ : ByteArray)) := (blk_cell BK168.out 2).trans rfl; have hcz6_3 : w3.cell? ⟨gb168, 3, none⟩ = some (.float .f64 0) := (blk_cell BK168.out 3).trans rfl; have hfz6_0 := blk_frozen BK168.out 0; have hfz6_1 := blk_frozen BK168.out 1; have hfz6_2 := blk_frozen BK168.out 2; have hfz6_3 := blk_frozen BK168.out 3))
  refine bodyPost_ret (results_cell_row rfl _ _ gb168 96 #[.int .i64 a0_3, .int .i64 a0_2, .string a0_4, .float .f64 bv0_5] (0, 0) _ rfl (by (with_reducible repeat (first | refine blk_drewN ?_ _ | refine blk_drew ?_ | refine blk_alloc ?_ _)); refine blk_put (cs := #[.int .i64 a0_3, .int .i64 a0_2, .string a0_4, .float .f64 0]) ?_ 3 _ rfl; (with_reducible repeat (first | refine blk_drewN ?_ _ | refine blk_drew ?_ | refine blk_alloc ?_ _)); refine blk_put (cs := #[.int .i64 a0_3, .int .i64 a0_2, .string (⟨#[]⟩ : ByteArray), .float .f64 0]) ?_ 2 _ rfl; (with_reducible repeat (first | refine blk_drewN ?_ _ | refine blk_drew ?_ | refine blk_alloc ?_ _)); refine blk_put (cs := #[.int .i64 a0_3, .int .i64 0, .string (⟨#[]⟩ : ByteArray), .float .f64 0]) ?_ 1 _ rfl; (with_reducible repeat (first | refine blk_drewN ?_ _ | refine blk_drew ?_ | refine blk_alloc ?_ _)); refine blk_put (cs := #[.int .i64 0, .int .i64 0, .string (⟨#[]⟩ : ByteArray), .float .f64 0]) ?_ 0 _ rfl; (with_reducible repeat (first | refine blk_drewN ?_ _ | refine blk_drew ?_ | refine blk_alloc ?_ _)); exact BK168.out) Try.underlying96 rfl (by kernel_rfl)) rfl ?_
  exact ⟨_, by first | rfl | (simp [errW_none, errW_some] <;> rfl) | (simp [*, errW_none, errW_some] <;> rfl), (by first | assumption | exact FB_lit _ _ rfl | exact FB_int _ | simpa using (by assumption)), by repeat (first | (with_reducible first | exact HB.out | apply below_alloc | apply pw_below_drewN | apply below_drew1 | refine below_set ?_ GE167.out | refine below_set ?_ GE168.out) | exact HB.out)⟩
end Go.Proofs.Ytfgnjndfnijjoaa.Print
end
section
namespace Go.Proofs.Ytfgnjndfnijjoaa.Print
open Go.RowKit Go.Proofs.YtfgnjndfnijjoaaW.PrintWords Go.Proofs.YtfgnjndfnijjoaaW.PrintLast Go.Proofs.YtfgnjndfnijjoaaW.PrintMore
attribute [local go_sem] max2_int min2_int max_two min_two max_three min_three max_four min_four
attribute [local go_sem] run_store_float
set_option linter.unusedVariables false
set_option linter.unusedSimpArgs false
attribute [local go_sem high] eqA27
def bonsairef01_None.f  : Option (Int) := some 9221120237041090560
set_option maxHeartbeats 8000000 in
set_option maxRecDepth 100000 in
theorem bonsairef01_Minus.calls1 (b : Nat) (s : Bool) (w : World) (h1 : (FloatKind.f64.format.order b 0 == some .lt) = s) (h2 : (FloatKind.f64.format.order b 0 == some .eq) = false) :
    Calls Try.prog 50 #[.float .f64 b] w fun e w' => e = .returned (.bool s) ∧ Drawn0 w w' := by
  go_enter Try.func50, Try.ntmps50
  cases s
  · go_wp2
    go_ret
    exact ⟨rfl, Drawn0.refl _⟩
  · go_wp2
    go_ret
    exact ⟨rfl, Drawn0.refl _⟩
set_option maxHeartbeats 8000000 in
set_option maxRecDepth 100000 in
theorem bonsairef01_Minus.calls0 (s : Bool) (w : World) :
    Calls Try.prog 50 #[.float .f64 (Fl.zero s)] w fun e w' => e = .returned (.bool s) ∧ Drawn0 w w' := by
  have h1 : (FloatKind.f64.format.order (Fl.zero s) 0 == some .lt) = false := by cases s <;> decide
  have h2 : (FloatKind.f64.format.order (Fl.zero s) 0 == some .eq) = true := by cases s <;> decide
  have h3 : ∀ W, (binOp .quo 28 (.float .f64 4607182418800017408) (.float .f64 (Fl.zero s))).run Try.prog W = .ok (.float .f64 (Fl.inf s)) W := fun W => run_float_arith W .quo 28 .f64 _ _ _ (by cases s <;> decide)
  have h4 : (FloatKind.f64.format.order (Fl.inf s) 0 == some .lt) = s := by cases s <;> decide
  go_enter Try.func50, Try.ntmps50
  go_wp2
  go_ret
  exact ⟨rfl, Drawn0.refl _⟩
def bonsairef01_Bits.f (a0 : Int) : Option Int := some a0
set_option maxHeartbeats 8000000 in
set_option maxRecDepth 100000 in
theorem ref_none (w : World) : Calls Try.prog 49 #[] w fun e w' => e = .returned (.int .u64 9221120237041090560) ∧ w' = w := by
  go_enter Try.func49, Try.ntmps49
  go_wp2
  go_ret
  exact ⟨rfl, rfl⟩
set_option maxHeartbeats 8000000 in
set_option maxRecDepth 100000 in
theorem ref_top (w : World) : Calls Try.prog 51 #[] w fun e w' => e = .returned (.int .u64 9223372036854775808) ∧ w' = w := by
  go_enter Try.func51, Try.ntmps51
  go_wp2
  go_ret
  exact ⟨rfl, rfl⟩
set_option maxHeartbeats 8000000 in
set_option maxRecDepth 100000 in
theorem bonsairef01_Bits.nan (bv0 : Nat) (w : World) (hn : 9218868437227405312 < bv0 % 9223372036854775808) :
    Calls Try.prog 27 #[.float .f64 bv0] w fun e_ w' => e_ = .returned (.int .u64 (canonF bv0 : Nat)) ∧ Below w.heap.size w w' := by
  have h1 := (Fl.order_nan hn 0).1
  have h2 := (Fl.order_nan hn bv0).1
  have g1 : (FloatKind.f64.format.order bv0 0 == some .lt) = false := by show (Ieee.double.order bv0 0 == some .lt) = false; rw [h1]; rfl
  have g2 : (FloatKind.f64.format.order bv0 0 == some .eq) = false := by show (Ieee.double.order bv0 0 == some .eq) = false; rw [h1]; rfl
  have g3 : (FloatKind.f64.format.order bv0 bv0 != some .eq) = true := by show (Ieee.double.order bv0 bv0 != some .eq) = true; rw [h2]; rfl
  have hc : canonF bv0 = 9221120237041090560 := by unfold canonF; rw [if_pos hn]
  rw [hc]
  clear h1 h2
  go_enter Try.func27, Try.ntmps27
  go_wp2_with (first | (go_at_call 50; (with_reducible refine (bonsairef01_Minus.calls1 _ false _ g1 g2).mono ?_); rintro e' w1 ⟨rfl, nd, rfl⟩) | (go_at_call 49; (with_reducible refine (ref_none _).mono ?_); rintro e' w1 ⟨rfl, rfl⟩) | (go_at_call 51; (with_reducible refine (ref_top _).mono ?_); rintro e' w1 ⟨rfl, rfl⟩))
  go_ret
  exact ⟨rfl, by first | exact pw_below_drewN (Below.refl _ _) _ | exact Below.refl _ _⟩
set_option maxHeartbeats 8000000 in
set_option maxRecDepth 100000 in
theorem bonsairef01_Bits.zero (s : Bool) (w : World) :
    Calls Try.prog 27 #[.float .f64 (Fl.zero s)] w fun e_ w' => e_ = .returned (.int .u64 (canonF (Fl.zero s) : Nat)) ∧ Below w.heap.size w w' := by
  have g3 : (FloatKind.f64.format.order (Fl.zero false) (Fl.zero false) != some .eq) = false := by decide
  have g4 : (FloatKind.f64.format.order (Fl.zero false) 0 == some .eq) = true := by decide
  have hng := neg_zero
  have hc : ((canonF (Fl.zero s) : Nat) : Int) = (if s then 9223372036854775808 else 0) := by cases s <;> decide
  rw [hc]
  cases s
  · go_enter Try.func27, Try.ntmps27
    go_wp2_with (first | (go_at_call 50; (with_reducible refine (bonsairef01_Minus.calls0 false _).mono ?_); rintro e' w1 ⟨rfl, nd, rfl⟩) | (go_at_call 49; (with_reducible refine (ref_none _).mono ?_); rintro e' w1 ⟨rfl, rfl⟩) | (go_at_call 51; (with_reducible refine (ref_top _).mono ?_); rintro e' w1 ⟨rfl, rfl⟩))
    go_ret
    exact ⟨rfl, by first | exact pw_below_drewN (Below.refl _ _) _ | exact Below.refl _ _⟩
  · go_enter Try.func27, Try.ntmps27
    go_wp2_with (first | (go_at_call 50; (with_reducible refine (bonsairef01_Minus.calls0 true _).mono ?_); rintro e' w1 ⟨rfl, nd, rfl⟩) | (go_at_call 49; (with_reducible refine (ref_none _).mono ?_); rintro e' w1 ⟨rfl, rfl⟩) | (go_at_call 51; (with_reducible refine (ref_top _).mono ?_); rintro e' w1 ⟨rfl, rfl⟩))
    go_ret
    exact ⟨rfl, by first | exact pw_below_drewN (Below.refl _ _) _ | exact Below.refl _ _⟩
set_option maxHeartbeats 8000000 in
set_option maxRecDepth 100000 in
theorem bonsairef01_Bits.inf (s : Bool) (w : World) :
    Calls Try.prog 27 #[.float .f64 (Fl.inf s)] w fun e_ w' => e_ = .returned (.int .u64 (canonF (Fl.inf s) : Nat)) ∧ Below w.heap.size w w' := by
  have g1 : (FloatKind.f64.format.order (Fl.inf s) 0 == some .lt) = s := by cases s <;> decide
  have g2 : (FloatKind.f64.format.order (Fl.inf s) 0 == some .eq) = false := by cases s <;> decide
  have g3 : (FloatKind.f64.format.order (Fl.inf false) (Fl.inf false) != some .eq) = false := by decide
  have g4 : (FloatKind.f64.format.order (Fl.inf false) 0 == some .eq) = false := by decide
  have g5 : ∀ W, (binOp .mul 28 (.float .f64 (Fl.inf false)) (.float .f64 4611686018427387904)).run Try.prog W = .ok (.float .f64 (Fl.inf false)) W := fun W => run_float_arith W .mul 28 .f64 _ _ _ (by decide)
  have g6 : (FloatKind.f64.format.order (Fl.inf false) (Fl.inf false) == some .eq) = true := by decide
  have hng := neg_inf
  have hc : ((canonF (Fl.inf s) : Nat) : Int) = (if s then 18442240474082181120 else 9218868437227405312) := by cases s <;> decide
  rw [hc]
  cases s
  · go_enter Try.func27, Try.ntmps27
    go_wp2_with (first | (go_at_call 50; (with_reducible refine (bonsairef01_Minus.calls1 _ _ _ g1 g2).mono ?_); rintro e' w1 ⟨rfl, nd, rfl⟩) | (go_at_call 49; (with_reducible refine (ref_none _).mono ?_); rintro e' w1 ⟨rfl, rfl⟩) | (go_at_call 51; (with_reducible refine (ref_top _).mono ?_); rintro e' w1 ⟨rfl, rfl⟩))
    go_ret
    exact ⟨rfl, by first | exact pw_below_drewN (Below.refl _ _) _ | exact Below.refl _ _⟩
  · go_enter Try.func27, Try.ntmps27
    go_wp2_with (first | (go_at_call 50; (with_reducible refine (bonsairef01_Minus.calls1 _ _ _ g1 g2).mono ?_); rintro e' w1 ⟨rfl, nd, rfl⟩) | (go_at_call 49; (with_reducible refine (ref_none _).mono ?_); rintro e' w1 ⟨rfl, rfl⟩) | (go_at_call 51; (with_reducible refine (ref_top _).mono ?_); rintro e' w1 ⟨rfl, rfl⟩))
    go_ret
    exact ⟨rfl, by first | exact pw_below_drewN (Below.refl _ _) _ | exact Below.refl _ _⟩
set_option maxHeartbeats 8000000 in
set_option maxRecDepth 100000 in
theorem bonsairef01_Bits.fin (s : Bool) {m : Nat} {e : Int} (w : World) (hm : m ≠ 0) (hm2 : m < 9007199254740992) (he : -1074 ≤ e) (hE : e + m.log2 ≤ 1023)
    (hform : (m < 4503599627370496 ∧ e = -1074 ∧ m.log2 ≤ 51 ∧ Fl.rung m e = m) ∨ (4503599627370496 ≤ m ∧ m.log2 = 52 ∧ e ≤ 971 ∧ (Fl.rung m e : Int) = (e + 1074) * 4503599627370496 + m)) :
    Calls Try.prog 27 #[.float .f64 (Ieee.double.word s (Fl.rung m e))] w fun e_ w' => e_ = .returned (.int .u64 (canonF (Ieee.double.word s (Fl.rung m e)) : Nat)) ∧ Below w.heap.size w w' := by
  obtain ⟨hfin1, hfin2, hfin3⟩ := Fl.read_rung s hm hm2 he hE
  have oz := Fl.order_zero s hm hm2 he hE
  have g1 : (FloatKind.f64.format.order (Ieee.double.word s (Fl.rung m e)) 0 == some .lt) = s := oz.1
  have g2 : (FloatKind.f64.format.order (Ieee.double.word s (Fl.rung m e)) 0 == some .eq) = false := oz.2
  have os := Fl.order_self_fin false hm hm2 he hE (Fl.rung m e) (Fl.word_false _).symm
  have g3 : (FloatKind.f64.format.order (Fl.rung m e) (Fl.rung m e) != some .eq) = false := by show (Ieee.double.order _ _ != some .eq) = false; rw [os]; rfl
  have oz2 := (Fl.order_zero false hm hm2 he hE).2
  rw [Fl.word_false] at oz2
  have g4 : (FloatKind.f64.format.order (Fl.rung m e) 0 == some .eq) = false := oz2
  have g5 := Fl.mul_two false hm hm2 (e := e) (k := 1) he hE (by omega) (by omega) (by omega)
  rw [Fl.word_false, Fl.word_false, rung_1] at g5
  have g5' : ∀ W, (binOp .mul 28 (.float .f64 (Fl.rung m e)) (.float .f64 4611686018427387904)).run Try.prog W = .ok (.float .f64 (Fl.rung m (e + 1))) W := fun W => run_float_arith W .mul 28 .f64 _ _ _ g5
  have g6 : (FloatKind.f64.format.order (Fl.rung m (e + 1)) (Fl.rung m e) == some .eq) = false := (Fl.order_double hm hm2 he hE).2
  have oss := Fl.order_self_fin s hm hm2 he hE _ rfl
  have g3s : (FloatKind.f64.format.order (Ieee.double.word s (Fl.rung m e)) (Ieee.double.word s (Fl.rung m e)) != some .eq) = false := by show (Ieee.double.order _ _ != some .eq) = false; rw [oss]; rfl
  clear oss
  have hL := Fl.log2_lt53 hm hm2
  have hng := fun W => neg_run Try.prog W s (r := Fl.rung m e) (by omega)
  have HN := Aside0.mk hng
  clear hng g5 oz oz2 os hfin1 hfin3
  rw [Fl.canonF_fin s (by omega), Fl.word_val]
  obtain ⟨L, hLd⟩ : ∃ L : Int, L = (m.log2 : Int) := ⟨_, rfl⟩
  obtain ⟨R, hR⟩ : ∃ R : Int, R = (Fl.rung m e : Int) := ⟨_, rfl⟩
  have hres : Aside0 (∃ D : Nat, D < 4503599627370496 ∧ ((L ≤ 51 ∧ e = -1074 ∧ D = m ∧ R = D) ∨ (L = 52 ∧ m = D + 4503599627370496 ∧ R = (e + 1075) * 4503599627370496 + D))) := by
    rcases hform with ⟨f1, f2, f3, f4⟩ | ⟨f1, f2, f3, f4⟩
    · exact ⟨m, f1, .inl ⟨by omega, f2, rfl, by omega⟩⟩
    · exact ⟨m - 4503599627370496, by omega, .inr ⟨by omega, by omega, by omega⟩⟩
  rw [← hR]
  have hR' := Aside0.mk hR
  have hE' : e + L ≤ 1023 := by omega
  clear hform hR hfin2
  obtain ⟨e0, he0⟩ : ∃ e0, e0 = e := ⟨_, rfl⟩
  have hxx : Aside0 (e = e0) := ⟨he0.symm⟩
  cases s
  · rw [Fl.word_false] at g1 g2 ⊢
    go_enter Try.func27, Try.ntmps27
    go_wp2_with (first | (go_at_call 50; (with_reducible refine (bonsairef01_Minus.calls1 _ _ _ g1 g2).mono ?_); rintro e' w1 ⟨rfl, nd, rfl⟩) | (go_at_call 49; (with_reducible refine (ref_none _).mono ?_); rintro e' w1 ⟨rfl, rfl⟩) | (go_at_call 51; (with_reducible refine (ref_top _).mono ?_); rintro e' w1 ⟨rfl, rfl⟩))
    go_loopg [0, 4] 3000 (fun kq v0 v4 w' => ∃ (x n : Int), v0 = .float .f64 (Fl.rung m x) ∧ v4 = .int .u64 n ∧ Aside0 (x + L < kq ∧ n + x = 1023 + e0 ∧ -1074 ≤ x ∧ x + L ≤ 1023 ∧ x ≤ e0 ∧ (x = e0 ∨ 0 ≤ x + L)) ∧ Aside0 (Below w.heap.size w w'))
    case atStart => exact ⟨e, 1023, by rfl, by rfl, ⟨by have := hxx.out; omega⟩, ⟨by first | exact pw_below_drewN (Below.refl _ _) _ | exact Below.refl _ _⟩⟩
    case round =>
      obtain ⟨x, n, rfl, rfl, HK, HB⟩ := hrel
      have hk := HK.out
      have ro1 := (Fl.order_two hm hm2 (e := x) (k := 1) (by omega) (by omega) (by omega) (by omega)).2
      rw [rung_1] at ro1
      by_cases c1 : 1 ≤ x + m.log2
      · cases gk with
        | zero => exact absurd c1 (by omega)
        | succ k2 =>
          rw [decide_eq_true c1] at ro1
          have s1 : (FloatKind.f64.format.order (Fl.rung m x) 4611686018427387904 == some .gt || FloatKind.f64.format.order (Fl.rung m x) 4611686018427387904 == some .eq) = true := ro1
          have m1 := mul_at hm hm2 (e := x) (k := -1) (by omega) (by omega) (by omega) (by omega) (by omega)
          rw [rung_m1] at m1
          have rw2 : IntKind.u64.wrap (n + 1) = n + 1 := by rw [IntKind.wrap_u64]; omega
          clear ro1
          go_wp2
          go_roundg k2
          case measure => omega
          case rel => exact ⟨x + -1, n + 1, by rfl, by first | rfl | simp [goInt, rw2], ⟨by omega⟩, HB⟩
      · rw [decide_eq_false c1] at ro1
        have s1 : (FloatKind.f64.format.order (Fl.rung m x) 4611686018427387904 == some .gt || FloatKind.f64.format.order (Fl.rung m x) 4611686018427387904 == some .eq) = false := ro1
        clear ro1
        go_wp2
        go_loopg [0, 4] 3000 (fun kq v0 v4 w' => ∃ (x n : Int), v0 = .float .f64 (Fl.rung m x) ∧ v4 = .int .u64 n ∧ Aside0 (-(x + L) < kq ∧ x + L ≤ 0 ∧ n + x = 1023 + e0 ∧ -1074 ≤ x ∧ 1 ≤ n ∧ n ≤ 2046) ∧ Aside0 (Below w.heap.size w w'))
        case atStart => exact ⟨x, n, by rfl, by rfl, ⟨by omega⟩, HB⟩
        case round =>
          clear HB HK hk c1 s1
          obtain ⟨x, n, rfl, rfl, HK, HB⟩ := hrel
          have hk := HK.out
          have ro1 := (Fl.order_two hm hm2 (e := x) (k := 0) (by omega) (by omega) (by omega) (by omega)).1
          rw [rung_0] at ro1
          by_cases c1 : x + m.log2 < 0 ∧ 1 < n
          · cases gk with
            | zero => exact absurd c1.1 (by omega)
            | succ k2 =>
              rw [decide_eq_true c1.1] at ro1
              have s1 : (FloatKind.f64.format.order (Fl.rung m x) 4607182418800017408 == some .lt) = true := ro1
              have s2 : decide (n > 1) = true := decide_eq_true c1.2
              have m1 := mul_at hm hm2 (e := x) (k := 1) (by omega) (by omega) (by omega) (by omega) (by omega)
              rw [rung_1] at m1
              have rw2 : IntKind.u64.wrap (n - 1) = n - 1 := by rw [IntKind.wrap_u64]; omega
              clear ro1
              go_wp2
              go_roundg k2
              case measure => omega
              case rel => exact ⟨x + 1, n - 1, by rfl, by first | rfl | simp [goInt, rw2], ⟨by omega⟩, HB⟩
          · have s2 : decide (n > 1) = decide (1 < n) := rfl
            obtain ⟨D, hD, hDD⟩ := hres.out
            have hx : x = -52 := by have := hxx.out; omega
            have hfin : Aside0 (ite (L ≤ 51) 0 n * 4503599627370496 + D = R ∧ 0 ≤ ite (L ≤ 51) 0 n ∧ ite (L ≤ 51) 0 n ≤ 2046) := ⟨by
              have := hxx.out
              split <;> omega⟩
            have hfin' := hfin
            clear hfin
            have hR0 : ∀ i : Int, -52 ≤ i → i < 0 → ∀ W, (binOp .mul 28 (.float .f64 (Fl.R0 D i)) (.float .f64 4611686018427387904)).run Try.prog W = .ok (.float .f64 (Fl.R0 D (i + 1))) W := fun i h1 h2 W =>
              run_float_arith W .mul 28 .f64 _ _ _ (by have := Fl.R0_mul (D := D) (by omega) (x := i) (by omega) (by omega); rwa [rung_1] at this)
            have HR0 := Aside0.mk hR0
            have hti := toIntVal_of (Fl.R0_toInt (D := D) (by omega)) (by omega)
            have hti' : ∀ W, (convert 28 52 (.float .f64 (Fl.R0 D 0))).run Try.prog W = .ok (.int .u64 (D : Int)) W := fun W => run_convert_float_int W 28 52 .f64 .u64 _ _ (by kernel_rfl) Try.underlying52 hti
            clear hti hR0
            subst hx
            clear hk
            by_cases c2 : (m.log2 : Int) ≤ 51
            · have hfin : Aside0 ((D : Int) = R) := ⟨by have := hfin'.out; rw [if_pos (by omega)] at this; omega⟩
              have c2' : -52 + (m.log2 : Int) < 0 := by omega
              rw [decide_eq_true c2'] at ro1
              have s1 : (FloatKind.f64.format.order (Fl.rung m (-52)) 4607182418800017408 == some .lt) = true := ro1
              have s3 : decide (1 < n) = false := decide_eq_false (fun h => c1 ⟨c2', h⟩)
              have s4 : decide (n > 1) = false := s3
              have hR52 : Fl.rung m (-52) = Fl.R0 D (-52) := by
                have : D = m := by omega
                unfold Fl.R0
                rw [this, if_neg hm]
              have HR52 := Aside0.mk hR52
              clear ro1 hR52
              go_wp2
              go_loopg [0, 5] 60 (fun kq v0 v5 w' => ∃ (i : Int), v0 = .float .f64 (Fl.R0 D (i - 52)) ∧ v5 = .int .i64 i ∧ Aside0 (0 ≤ i ∧ i ≤ 52 ∧ 52 - i < kq) ∧ Aside0 (Below w.heap.size w w'))
              case atStart => exact ⟨0, by rw [HR52.out]; rfl, by rfl, ⟨by omega⟩, HB⟩
              case round =>
                clear HB
                obtain ⟨i, rfl, rfl, HK, HB⟩ := hrel
                have hk := HK.out
                by_cases c5 : i < 52
                · cases gk with
                  | zero => exact absurd c5 (by omega)
                  | succ k2 =>
                    have s5 : decide (i < 52) = true := decide_eq_true c5
                    have m1 := HR0.out (i - 52) (by omega) (by omega)
                    have rw2 : IntKind.i64.wrap (i + 1) = i + 1 := by rw [IntKind.wrap_i64]; omega
                    go_wp2
                    go_roundg k2
                    case measure => omega
                    case rel => exact ⟨i + 1, by rw [show i + 1 - 52 = i - 52 + 1 by omega], by first | rfl | simp [goInt, rw2], ⟨by omega⟩, HB⟩
                · have s5 : decide (i < 52) = false := decide_eq_false c5
                  have hi : i - 52 = 0 := by omega
                  rw [hi]
                  go_wp2
                  go_ret
                  refine ⟨?_, HB.out⟩
                  have hf := hfin.out
                  refine congrArg (fun x => Ending.returned (.int .u64 x)) ?_
                  (try rw [IntKind.wrap_u64, IntKind.wrap_u64, IntKind.wrap_u64])
                  (try rw [IntKind.wrap_u64, IntKind.wrap_u64])
                  (try rw [IntKind.wrap_u64])
                  (try simp only [Bool.false_eq_true, if_false, if_true])
                  omega
            · have hfin : Aside0 (n * 4503599627370496 + D = R ∧ 0 ≤ n ∧ n ≤ 2046) := ⟨by have := hfin'.out; rw [if_neg (by omega)] at this; omega⟩
              rw [decide_eq_false (by omega)] at ro1
              have s1 : (FloatKind.f64.format.order (Fl.rung m (-52)) 4607182418800017408 == some .lt) = false := ro1
              have hR52 : ∀ W, (binOp .sub 28 (.float .f64 (Fl.rung m (-52))) (.float .f64 4607182418800017408)).run Try.prog W = .ok (.float .f64 (Fl.R0 D (-52))) W := fun W =>
                run_float_arith W .sub 28 .f64 _ _ _ (by
                  have hl : m.log2 = 52 := by omega
                  have h1 := Fl.sub_one hm hm2 (by omega)
                  rw [hl, rung_0] at h1
                  have hD2 : m * 2 ^ (52 - 52) - 4503599627370496 = D := by
                    rw [Nat.sub_self, Nat.pow_zero, Nat.mul_one]; omega
                  rw [hD2] at h1
                  exact h1)
              clear ro1
              go_wp2
              go_loopg [0, 5] 60 (fun kq v0 v5 w' => ∃ (i : Int), v0 = .float .f64 (Fl.R0 D (i - 52)) ∧ v5 = .int .i64 i ∧ Aside0 (0 ≤ i ∧ i ≤ 52 ∧ 52 - i < kq) ∧ Aside0 (Below w.heap.size w w'))
              case atStart => exact ⟨0, by rfl, by rfl, ⟨by omega⟩, HB⟩
              case round =>
                clear HB
                obtain ⟨i, rfl, rfl, HK, HB⟩ := hrel
                have hk := HK.out
                by_cases c5 : i < 52
                · cases gk with
                  | zero => exact absurd c5 (by omega)
                  | succ k2 =>
                    have s5 : decide (i < 52) = true := decide_eq_true c5
                    have m1 := HR0.out (i - 52) (by omega) (by omega)
                    have rw2 : IntKind.i64.wrap (i + 1) = i + 1 := by rw [IntKind.wrap_i64]; omega
                    go_wp2
                    go_roundg k2
                    case measure => omega
                    case rel => exact ⟨i + 1, by rw [show i + 1 - 52 = i - 52 + 1 by omega], by first | rfl | simp [goInt, rw2], ⟨by omega⟩, HB⟩
                · have s5 : decide (i < 52) = false := decide_eq_false c5
                  have hi : i - 52 = 0 := by omega
                  rw [hi]
                  go_wp2
                  go_ret
                  refine ⟨?_, HB.out⟩
                  have hf := hfin.out
                  refine congrArg (fun x => Ending.returned (.int .u64 x)) ?_
                  (try rw [IntKind.wrap_u64, IntKind.wrap_u64, IntKind.wrap_u64])
                  (try rw [IntKind.wrap_u64, IntKind.wrap_u64])
                  (try rw [IntKind.wrap_u64])
                  (try simp only [Bool.false_eq_true, if_false, if_true])
                  omega
  · have hng : ∀ W, (Op.unary .neg (.float .f64 (Ieee.double.word true (Fl.rung m e)))).run Try.prog W = .ok (.float .f64 (Fl.rung m e)) W := fun W => by have := HN.out W; rwa [Bool.not_true, Fl.word_false] at this
    have hlt2 : True := trivial
    go_enter Try.func27, Try.ntmps27
    go_wp2_with (first | (go_at_call 50; (with_reducible refine (bonsairef01_Minus.calls1 _ _ _ g1 g2).mono ?_); rintro e' w1 ⟨rfl, nd, rfl⟩) | (go_at_call 49; (with_reducible refine (ref_none _).mono ?_); rintro e' w1 ⟨rfl, rfl⟩) | (go_at_call 51; (with_reducible refine (ref_top _).mono ?_); rintro e' w1 ⟨rfl, rfl⟩))
    go_loopg [0, 4] 3000 (fun kq v0 v4 w' => ∃ (x n : Int), v0 = .float .f64 (Fl.rung m x) ∧ v4 = .int .u64 n ∧ Aside0 (x + L < kq ∧ n + x = 1023 + e0 ∧ -1074 ≤ x ∧ x + L ≤ 1023 ∧ x ≤ e0 ∧ (x = e0 ∨ 0 ≤ x + L)) ∧ Aside0 (Below w.heap.size w w'))
    case atStart => exact ⟨e, 1023, by rfl, by rfl, ⟨by have := hxx.out; omega⟩, ⟨by first | exact pw_below_drewN (Below.refl _ _) _ | exact Below.refl _ _⟩⟩
    case round =>
      obtain ⟨x, n, rfl, rfl, HK, HB⟩ := hrel
      have hk := HK.out
      have ro1 := (Fl.order_two hm hm2 (e := x) (k := 1) (by omega) (by omega) (by omega) (by omega)).2
      rw [rung_1] at ro1
      by_cases c1 : 1 ≤ x + m.log2
      · cases gk with
        | zero => exact absurd c1 (by omega)
        | succ k2 =>
          rw [decide_eq_true c1] at ro1
          have s1 : (FloatKind.f64.format.order (Fl.rung m x) 4611686018427387904 == some .gt || FloatKind.f64.format.order (Fl.rung m x) 4611686018427387904 == some .eq) = true := ro1
          have m1 := mul_at hm hm2 (e := x) (k := -1) (by omega) (by omega) (by omega) (by omega) (by omega)
          rw [rung_m1] at m1
          have rw2 : IntKind.u64.wrap (n + 1) = n + 1 := by rw [IntKind.wrap_u64]; omega
          clear ro1
          go_wp2
          go_roundg k2
          case measure => omega
          case rel => exact ⟨x + -1, n + 1, by rfl, by first | rfl | simp [goInt, rw2], ⟨by omega⟩, HB⟩
      · rw [decide_eq_false c1] at ro1
        have s1 : (FloatKind.f64.format.order (Fl.rung m x) 4611686018427387904 == some .gt || FloatKind.f64.format.order (Fl.rung m x) 4611686018427387904 == some .eq) = false := ro1
        clear ro1
        go_wp2
        go_loopg [0, 4] 3000 (fun kq v0 v4 w' => ∃ (x n : Int), v0 = .float .f64 (Fl.rung m x) ∧ v4 = .int .u64 n ∧ Aside0 (-(x + L) < kq ∧ x + L ≤ 0 ∧ n + x = 1023 + e0 ∧ -1074 ≤ x ∧ 1 ≤ n ∧ n ≤ 2046) ∧ Aside0 (Below w.heap.size w w'))
        case atStart => exact ⟨x, n, by rfl, by rfl, ⟨by omega⟩, HB⟩
        case round =>
          clear HB HK hk c1 s1
          obtain ⟨x, n, rfl, rfl, HK, HB⟩ := hrel
          have hk := HK.out
          have ro1 := (Fl.order_two hm hm2 (e := x) (k := 0) (by omega) (by omega) (by omega) (by omega)).1
          rw [rung_0] at ro1
          by_cases c1 : x + m.log2 < 0 ∧ 1 < n
          · cases gk with
            | zero => exact absurd c1.1 (by omega)
            | succ k2 =>
              rw [decide_eq_true c1.1] at ro1
              have s1 : (FloatKind.f64.format.order (Fl.rung m x) 4607182418800017408 == some .lt) = true := ro1
              have s2 : decide (n > 1) = true := decide_eq_true c1.2
              have m1 := mul_at hm hm2 (e := x) (k := 1) (by omega) (by omega) (by omega) (by omega) (by omega)
              rw [rung_1] at m1
              have rw2 : IntKind.u64.wrap (n - 1) = n - 1 := by rw [IntKind.wrap_u64]; omega
              clear ro1
              go_wp2
              go_roundg k2
              case measure => omega
              case rel => exact ⟨x + 1, n - 1, by rfl, by first | rfl | simp [goInt, rw2], ⟨by omega⟩, HB⟩
          · have s2 : decide (n > 1) = decide (1 < n) := rfl
            obtain ⟨D, hD, hDD⟩ := hres.out
            have hx : x = -52 := by have := hxx.out; omega
            have hfin : Aside0 (ite (L ≤ 51) 0 n * 4503599627370496 + D = R ∧ 0 ≤ ite (L ≤ 51) 0 n ∧ ite (L ≤ 51) 0 n ≤ 2046) := ⟨by
              have := hxx.out
              split <;> omega⟩
            have hfin' := hfin
            clear hfin
            have hR0 : ∀ i : Int, -52 ≤ i → i < 0 → ∀ W, (binOp .mul 28 (.float .f64 (Fl.R0 D i)) (.float .f64 4611686018427387904)).run Try.prog W = .ok (.float .f64 (Fl.R0 D (i + 1))) W := fun i h1 h2 W =>
              run_float_arith W .mul 28 .f64 _ _ _ (by have := Fl.R0_mul (D := D) (by omega) (x := i) (by omega) (by omega); rwa [rung_1] at this)
            have HR0 := Aside0.mk hR0
            have hti := toIntVal_of (Fl.R0_toInt (D := D) (by omega)) (by omega)
            have hti' : ∀ W, (convert 28 52 (.float .f64 (Fl.R0 D 0))).run Try.prog W = .ok (.int .u64 (D : Int)) W := fun W => run_convert_float_int W 28 52 .f64 .u64 _ _ (by kernel_rfl) Try.underlying52 hti
            clear hti hR0
            subst hx
            clear hk
            by_cases c2 : (m.log2 : Int) ≤ 51
            · have hfin : Aside0 ((D : Int) = R) := ⟨by have := hfin'.out; rw [if_pos (by omega)] at this; omega⟩
              have c2' : -52 + (m.log2 : Int) < 0 := by omega
              rw [decide_eq_true c2'] at ro1
              have s1 : (FloatKind.f64.format.order (Fl.rung m (-52)) 4607182418800017408 == some .lt) = true := ro1
              have s3 : decide (1 < n) = false := decide_eq_false (fun h => c1 ⟨c2', h⟩)
              have s4 : decide (n > 1) = false := s3
              have hR52 : Fl.rung m (-52) = Fl.R0 D (-52) := by
                have : D = m := by omega
                unfold Fl.R0
                rw [this, if_neg hm]
              have HR52 := Aside0.mk hR52
              clear ro1 hR52
              go_wp2
              go_loopg [0, 5] 60 (fun kq v0 v5 w' => ∃ (i : Int), v0 = .float .f64 (Fl.R0 D (i - 52)) ∧ v5 = .int .i64 i ∧ Aside0 (0 ≤ i ∧ i ≤ 52 ∧ 52 - i < kq) ∧ Aside0 (Below w.heap.size w w'))
              case atStart => exact ⟨0, by rw [HR52.out]; rfl, by rfl, ⟨by omega⟩, HB⟩
              case round =>
                clear HB
                obtain ⟨i, rfl, rfl, HK, HB⟩ := hrel
                have hk := HK.out
                by_cases c5 : i < 52
                · cases gk with
                  | zero => exact absurd c5 (by omega)
                  | succ k2 =>
                    have s5 : decide (i < 52) = true := decide_eq_true c5
                    have m1 := HR0.out (i - 52) (by omega) (by omega)
                    have rw2 : IntKind.i64.wrap (i + 1) = i + 1 := by rw [IntKind.wrap_i64]; omega
                    go_wp2
                    go_roundg k2
                    case measure => omega
                    case rel => exact ⟨i + 1, by rw [show i + 1 - 52 = i - 52 + 1 by omega], by first | rfl | simp [goInt, rw2], ⟨by omega⟩, HB⟩
                · have s5 : decide (i < 52) = false := decide_eq_false c5
                  have hi : i - 52 = 0 := by omega
                  rw [hi]
                  go_wp2
                  go_ret
                  refine ⟨?_, HB.out⟩
                  have hf := hfin.out
                  refine congrArg (fun x => Ending.returned (.int .u64 x)) ?_
                  (try rw [IntKind.wrap_u64, IntKind.wrap_u64, IntKind.wrap_u64])
                  (try rw [IntKind.wrap_u64, IntKind.wrap_u64])
                  (try rw [IntKind.wrap_u64])
                  (try simp only [Bool.false_eq_true, if_false, if_true])
                  omega
            · have hfin : Aside0 (n * 4503599627370496 + D = R ∧ 0 ≤ n ∧ n ≤ 2046) := ⟨by have := hfin'.out; rw [if_neg (by omega)] at this; omega⟩
              rw [decide_eq_false (by omega)] at ro1
              have s1 : (FloatKind.f64.format.order (Fl.rung m (-52)) 4607182418800017408 == some .lt) = false := ro1
              have hR52 : ∀ W, (binOp .sub 28 (.float .f64 (Fl.rung m (-52))) (.float .f64 4607182418800017408)).run Try.prog W = .ok (.float .f64 (Fl.R0 D (-52))) W := fun W =>
                run_float_arith W .sub 28 .f64 _ _ _ (by
                  have hl : m.log2 = 52 := by omega
                  have h1 := Fl.sub_one hm hm2 (by omega)
                  rw [hl, rung_0] at h1
                  have hD2 : m * 2 ^ (52 - 52) - 4503599627370496 = D := by
                    rw [Nat.sub_self, Nat.pow_zero, Nat.mul_one]; omega
                  rw [hD2] at h1
                  exact h1)
              clear ro1
              go_wp2
              go_loopg [0, 5] 60 (fun kq v0 v5 w' => ∃ (i : Int), v0 = .float .f64 (Fl.R0 D (i - 52)) ∧ v5 = .int .i64 i ∧ Aside0 (0 ≤ i ∧ i ≤ 52 ∧ 52 - i < kq) ∧ Aside0 (Below w.heap.size w w'))
              case atStart => exact ⟨0, by rfl, by rfl, ⟨by omega⟩, HB⟩
              case round =>
                clear HB
                obtain ⟨i, rfl, rfl, HK, HB⟩ := hrel
                have hk := HK.out
                by_cases c5 : i < 52
                · cases gk with
                  | zero => exact absurd c5 (by omega)
                  | succ k2 =>
                    have s5 : decide (i < 52) = true := decide_eq_true c5
                    have m1 := HR0.out (i - 52) (by omega) (by omega)
                    have rw2 : IntKind.i64.wrap (i + 1) = i + 1 := by rw [IntKind.wrap_i64]; omega
                    go_wp2
                    go_roundg k2
                    case measure => omega
                    case rel => exact ⟨i + 1, by rw [show i + 1 - 52 = i - 52 + 1 by omega], by first | rfl | simp [goInt, rw2], ⟨by omega⟩, HB⟩
                · have s5 : decide (i < 52) = false := decide_eq_false c5
                  have hi : i - 52 = 0 := by omega
                  rw [hi]
                  go_wp2
                  go_ret
                  refine ⟨?_, HB.out⟩
                  have hf := hfin.out
                  refine congrArg (fun x => Ending.returned (.int .u64 x)) ?_
                  (try rw [IntKind.wrap_u64, IntKind.wrap_u64, IntKind.wrap_u64])
                  (try rw [IntKind.wrap_u64, IntKind.wrap_u64])
                  (try rw [IntKind.wrap_u64])
                  (try simp only [Bool.false_eq_true, if_false, if_true])
                  omega
set_option maxRecDepth 100000 in
theorem bonsairef01_Bits.calls (bv0 : Nat) (a0 : Int) (r : Int) (w : World) (bq0 : FB bv0 a0) (h : bonsairef01_Bits.f a0 = some r) :
    Calls Try.prog 27 #[.float .f64 bv0] w fun e_ w' => e_ = .returned (.int .u64 r) ∧ Below w.heap.size w w' := by
  obtain rfl := Option.some.inj h
  clear h
  rw [bq0.eq]
  rcases Fl.classify bv0 bq0.lt with hn | hz | hz | ⟨s, m, e, hm, hm2, he, hE, hz, hform⟩
  · exact bonsairef01_Bits.nan _ w hn
  · obtain ⟨s, hz⟩ := hz
    rw [hz]
    exact bonsairef01_Bits.zero s w
  · obtain ⟨s, hz⟩ := hz
    rw [hz]
    exact bonsairef01_Bits.inf s w
  · rw [hz]
    exact bonsairef01_Bits.fin s w hm hm2 he hE hform
def bonsairef01_Same.f (a0 : Int) (a1 : Int) : Option (Bool) := (bonsairef01_Bits.f a0).bind fun t169 => ((bonsairef01_Bits.f a1).bind fun t170 => (some (t169 == t170)))
set_option maxHeartbeats 8000000 in
set_option maxRecDepth 100000 in
theorem bonsairef01_Same.calls (bv0 : Nat) (a0 : Int) (bv1 : Nat) (a1 : Int) (r : Bool) (w : World) (bq0 : FB bv0 a0) (bq1 : FB bv1 a1) (h : bonsairef01_Same.f a0 a1 = some r) :
    Calls Try.prog 89 #[.float .f64 bv0, .float .f64 bv1] w fun e w' => e = .returned (.bool r) ∧ Below w.heap.size w w' := by
  have HB := Aside0.mk (Below.refl w.heap.size w)
  have H : ((bonsairef01_Bits.f a0).bind fun t169 => ((bonsairef01_Bits.f a1).bind fun t170 => (some (t169 == t170)))) = some r := h
  clear h
  replace H := Option.bind_eq_some_iff.mp H
  obtain ⟨t169, A30, H⟩ := H
  replace H : ((bonsairef01_Bits.f a1).bind fun t170 => (some (t169 == t170))) = some r := H
  have A3 := Aside0.mk A30
  clear A30
  replace H := Option.bind_eq_some_iff.mp H
  obtain ⟨t170, A40, H⟩ := H
  replace H : (some (t169 == t170)) = some r := H
  have A4 := Aside0.mk A40
  clear A40
  obtain rfl := Option.some.inj H
  go_enter Try.func89, Try.ntmps89
  go_wp2_with (first | ((with_reducible refine gate_callee (f := 27) rfl ?_); refine goesL_ (some 6) rfl rfl Try.func27 (by kernel_rfl) rfl #[.float .f64 bv0] rfl (by (try simp only [List.map_toArray, List.map_cons, List.map_nil]); first | done | rfl | (simp only [List.length_drop, List.length_take]; rfl)) ?_; (with_reducible refine (bonsairef01_Bits.calls _ a0 t169 _ ?side1 A3.out).mono ?_); (case side1 => exact (by first | assumption | exact FB_lit _ _ rfl | exact FB_int _ | simpa using (by assumption))); rintro e w5 ⟨rfl, hb⟩; refine ⟨_, rfl, ?_⟩; have n0_ := Aside0.mk (below_step (by repeat (first | (with_reducible first | exact HB.out | apply below_alloc | apply pw_below_drewN | apply below_drew1) | exact HB.out)) hb); clear HB; have HB := n0_; clear n0_; (try clear hb); (try clear hb2); (try clear hk); (try clear hi)) | ((with_reducible refine gate_callee (f := 27) rfl ?_); refine goesL_ (some 8) rfl rfl Try.func27 (by kernel_rfl) rfl #[.float .f64 bv1] rfl (by (try simp only [List.map_toArray, List.map_cons, List.map_nil]); first | done | rfl | (simp only [List.length_drop, List.length_take]; rfl)) ?_; (with_reducible refine (bonsairef01_Bits.calls _ a1 t170 _ ?side1 A4.out).mono ?_); (case side1 => exact (by first | assumption | exact FB_lit _ _ rfl | exact FB_int _ | simpa using (by assumption))); rintro e w6 ⟨rfl, hb⟩; refine ⟨_, rfl, ?_⟩; have n0_ := Aside0.mk (below_step (by repeat (first | (with_reducible first | exact HB.out | apply below_alloc | apply pw_below_drewN | apply below_drew1) | exact HB.out)) hb); clear HB; have HB := n0_; clear n0_; (try clear hb); (try clear hb2); (try clear hk); (try clear hi)))
  go_ret
  exact ⟨by first | rfl | (simp [errW_none, errW_some] <;> rfl) | (simp [*, errW_none, errW_some] <;> rfl), by repeat (first | (with_reducible first | exact HB.out | apply below_alloc | apply pw_below_drewN | apply below_drew1) | exact HB.out)⟩
def bonsairef12_Alike.f (a0_0 : Int) (a0_1 : Int) (a0_2 : ByteArray) (a0_3 : Int) (a1_0 : Int) (a1_1 : Int) (a1_2 : ByteArray) (a1_3 : Int) : Option (Bool) := if a0_0 = a1_0 then (if a0_1 = a1_1 then (if a0_2.toList = a1_2.toList then ((bonsairef01_Same.f a0_3 a1_3).bind fun t173 => (some t173)) else (some false)) else (some false)) else (some false)
set_option maxHeartbeats 8000000 in
set_option maxRecDepth 100000 in
theorem bonsairef12_Alike.calls (a0_0 : Int) (a0_1 : Int) (a0_2 : ByteArray) (bv0_3 : Nat) (a0_3 : Int) (a1_0 : Int) (a1_1 : Int) (a1_2 : ByteArray) (bv1_3 : Nat) (a1_3 : Int) (r : Bool) (w : World) (bq0_3 : FB bv0_3 a0_3) (bq1_3 : FB bv1_3 a1_3) (h : bonsairef12_Alike.f a0_0 a0_1 a0_2 a0_3 a1_0 a1_1 a1_2 a1_3 = some r) :
    Calls Try.prog 75 #[.agg #[.int .i64 a0_0, .int .i64 a0_1, .string a0_2, .float .f64 bv0_3], .agg #[.int .i64 a1_0, .int .i64 a1_1, .string a1_2, .float .f64 bv1_3]] w fun e w' => e = .returned (.bool r) ∧ Below w.heap.size w w' := by
  have hu96 := Try.underlying96
  have HB := Aside0.mk (Below.refl w.heap.size w)
  have H : (if a0_0 = a1_0 then (if a0_1 = a1_1 then (if a0_2.toList = a1_2.toList then ((bonsairef01_Same.f a0_3 a1_3).bind fun t173 => (some t173)) else (some false)) else (some false)) else (some false)) = some r := h
  clear h
  by_cases c3 : a0_0 = a1_0
  · rw [if_pos c3] at H
    have c3b0 : (a0_0 == a1_0) = true := beq_iff_eq.mpr c3
    have c3b1 : (a0_0 != a1_0) = false := bne_eq_false_iff_eq.mpr c3
    clear c3
    by_cases c4 : a0_1 = a1_1
    · rw [if_pos c4] at H
      have c4b0 : (a0_1 == a1_1) = true := beq_iff_eq.mpr c4
      have c4b1 : (a0_1 != a1_1) = false := bne_eq_false_iff_eq.mpr c4
      clear c4
      by_cases c5 : a0_2.toList = a1_2.toList
      · rw [if_pos c5] at H
        have c5b0 : (a0_2.toList == a1_2.toList) = true := beq_iff_eq.mpr c5
        have c5b1 : (a0_2.toList != a1_2.toList) = false := bne_eq_false_iff_eq.mpr c5
        clear c5
        replace H := Option.bind_eq_some_iff.mp H
        obtain ⟨t173, A60, H⟩ := H
        replace H : (some t173) = some r := H
        have A6 := Aside0.mk A60
        clear A60
        obtain rfl := Option.some.inj H
        go_enter Try.func75, Try.ntmps75
        go_wp2_with (first | ((with_reducible refine gate_dst (N := 2) rfl ?_); refine box_event ?hg (N := 2) ?hd (cs := #[.int .i64 a0_0, .int .i64 a0_1, .string a0_2, .float .f64 bv0_3]) (t := 96) ?hr ?_; (case hd => rfl); (case hg => rfl); (case hr => first | (go_simp; done) | (go_simp; rfl)); intro gb171 hg w7 hbox hb; have n0_ := Aside0.mk (below_step (by repeat (first | (with_reducible first | exact HB.out | apply below_alloc | apply pw_below_drewN | apply below_drew1) | exact HB.out)) hb); have n1_ := Aside0.mk (hbox); have n2_ := Aside0.mk ((by rw [hg]; exact (below_size (by repeat (first | (with_reducible first | exact HB.out | apply below_alloc | apply pw_below_drewN | apply below_drew1) | exact HB.out))) : w.heap.size ≤ gb171)); have n3_ := Aside0.mk ((by rw [hg]; exact (below_size (by repeat (first | (with_reducible first | exact HB.out | apply below_alloc | apply pw_below_drewN | apply below_drew1) | exact HB.out))) : w.heap.size ≤ gb171)); clear HB; have HB := n0_; have BK171 := n1_; have GW171 := n2_; have GE171 := n3_; clear n0_ n1_ n2_ n3_; clear hb hbox hg) | ((with_reducible refine gate_dst (N := 3) rfl ?_); refine box_event ?hg (N := 3) ?hd (cs := #[.int .i64 a1_0, .int .i64 a1_1, .string a1_2, .float .f64 bv1_3]) (t := 96) ?hr ?_; (case hd => rfl); (case hg => rfl); (case hr => first | (go_simp; done) | (go_simp; rfl)); intro gb172 hg w8 hbox hb; have n0_ := Aside0.mk (blk_below (g := gb171) (o := .cells #[.int .i64 a0_0, .int .i64 a0_1, .string a0_2, .float .f64 bv0_3] 96 (0, 0)) (by (with_reducible repeat (first | refine blk_drewN ?_ _ | refine blk_drew ?_ | refine blk_alloc ?_ _)); exact BK171.out) hb); have n1_ := Aside0.mk (below_step (by repeat (first | (with_reducible first | exact HB.out | apply below_alloc | apply pw_below_drewN | apply below_drew1 | refine below_set ?_ GE171.out) | exact HB.out)) hb); have n2_ := Aside0.mk (hbox); have n3_ := Aside0.mk ((by rw [hg]; exact (below_size (by repeat (first | (with_reducible first | exact HB.out | apply below_alloc | apply pw_below_drewN | apply below_drew1 | refine below_set ?_ GE171.out) | exact HB.out))) : w.heap.size ≤ gb172)); have n4_ := Aside0.mk ((by rw [hg]; exact (below_size (by repeat (first | (with_reducible first | exact HB.out | apply below_alloc | apply pw_below_drewN | apply below_drew1 | refine below_set ?_ GE171.out) | exact HB.out))) : w.heap.size ≤ gb172)); have n5_ := Aside0.mk ((by rw [hg]; exact Nat.ne_of_lt (blk_lt (g := gb171) (o := .cells #[.int .i64 a0_0, .int .i64 a0_1, .string a0_2, .float .f64 bv0_3] 96 (0, 0)) (by (with_reducible repeat (first | refine blk_drewN ?_ _ | refine blk_drew ?_ | refine blk_alloc ?_ _)); exact BK171.out)) : gb171 ≠ gb172)); have n6_ := Aside0.mk ((by rw [hg]; exact Nat.ne_of_gt (blk_lt (g := gb171) (o := .cells #[.int .i64 a0_0, .int .i64 a0_1, .string a0_2, .float .f64 bv0_3] 96 (0, 0)) (by (with_reducible repeat (first | refine blk_drewN ?_ _ | refine blk_drew ?_ | refine blk_alloc ?_ _)); exact BK171.out)) : gb172 ≠ gb171)); clear BK171; clear HB; have BK171 := n0_; have HB := n1_; have BK172 := n2_; have GW172 := n3_; have GE172 := n4_; have NB171_172 := n5_; have NB172_171 := n6_; clear n0_ n1_ n2_ n3_ n4_ n5_ n6_; clear hb hbox hg; have hnb9 := NB171_172.out; have hnc9 := NB172_171.out; have hcz10_0 : w8.cell? ⟨gb171, 0, none⟩ = some (.int .i64 a0_0) := (blk_cell BK171.out 0).trans rfl; have hcz10_1 : w8.cell? ⟨gb171, 1, none⟩ = some (.int .i64 a0_1) := (blk_cell BK171.out 1).trans rfl; have hcz10_2 : w8.cell? ⟨gb171, 2, none⟩ = some (.string a0_2) := (blk_cell BK171.out 2).trans rfl; have hcz10_3 : w8.cell? ⟨gb171, 3, none⟩ = some (.float .f64 bv0_3) := (blk_cell BK171.out 3).trans rfl; have hfz10_0 := blk_frozen BK171.out 0; have hfz10_1 := blk_frozen BK171.out 1; have hfz10_2 := blk_frozen BK171.out 2; have hfz10_3 := blk_frozen BK171.out 3; have hcz11_0 : w8.cell? ⟨gb172, 0, none⟩ = some (.int .i64 a1_0) := (blk_cell BK172.out 0).trans rfl; have hcz11_1 : w8.cell? ⟨gb172, 1, none⟩ = some (.int .i64 a1_1) := (blk_cell BK172.out 1).trans rfl; have hcz11_2 : w8.cell? ⟨gb172, 2, none⟩ = some (.string a1_2) := (blk_cell BK172.out 2).trans rfl; have hcz11_3 : w8.cell? ⟨gb172, 3, none⟩ = some (.float .f64 bv1_3) := (blk_cell BK172.out 3).trans rfl; have hfz11_0 := blk_frozen BK172.out 0; have hfz11_1 := blk_frozen BK172.out 1; have hfz11_2 := blk_frozen BK172.out 2; have hfz11_3 := blk_frozen BK172.out 3) | (go_at_call 89; (with_reducible refine (bonsairef01_Same.calls _ a0_3 _ a1_3 t173 _ ?side1 ?side2 A6.out).mono ?_); (case side1 => exact (by first | assumption | exact FB_lit _ _ rfl | exact FB_int _ | simpa using (by assumption))); (case side2 => exact (by first | assumption | exact FB_lit _ _ rfl | exact FB_int _ | simpa using (by assumption))); rintro e w12 ⟨rfl, hb⟩; have n0_ := Aside0.mk (blk_below (g := gb171) (o := .cells #[.int .i64 a0_0, .int .i64 a0_1, .string a0_2, .float .f64 bv0_3] 96 (0, 0)) (by (with_reducible repeat (first | refine blk_drewN ?_ _ | refine blk_drew ?_ | refine blk_alloc ?_ _)); exact BK171.out) hb); have n1_ := Aside0.mk (blk_below (g := gb172) (o := .cells #[.int .i64 a1_0, .int .i64 a1_1, .string a1_2, .float .f64 bv1_3] 96 (0, 0)) (by (with_reducible repeat (first | refine blk_drewN ?_ _ | refine blk_drew ?_ | refine blk_alloc ?_ _)); exact BK172.out) hb); have n2_ := Aside0.mk (below_step (by repeat (first | (with_reducible first | exact HB.out | apply below_alloc | apply pw_below_drewN | apply below_drew1 | refine below_set ?_ GE171.out | refine below_set ?_ GE172.out) | exact HB.out)) hb); clear BK171; clear BK172; clear HB; have BK171 := n0_; have BK172 := n1_; have HB := n2_; clear n0_ n1_ n2_; (try clear hb); (try clear hb2); (try clear hk); (try clear hi)))
        go_ret
        exact ⟨by first | rfl | (simp [errW_none, errW_some] <;> rfl) | (simp [*, errW_none, errW_some] <;> rfl), by repeat (first | (with_reducible first | exact HB.out | apply below_alloc | apply pw_below_drewN | apply below_drew1 | refine below_set ?_ GE171.out | refine below_set ?_ GE172.out) | exact HB.out)⟩
      · rw [if_neg c5] at H
        have c5b0 : (a0_2.toList == a1_2.toList) = false := beq_eq_false_iff_ne.mpr c5
        have c5b1 : (a0_2.toList != a1_2.toList) = true := bne_iff_ne.mpr c5
        obtain rfl := Option.some.inj H
        go_enter Try.func75, Try.ntmps75
        go_wp2_with (first | ((with_reducible refine gate_dst (N := 2) rfl ?_); refine box_event ?hg (N := 2) ?hd (cs := #[.int .i64 a0_0, .int .i64 a0_1, .string a0_2, .float .f64 bv0_3]) (t := 96) ?hr ?_; (case hd => rfl); (case hg => rfl); (case hr => first | (go_simp; done) | (go_simp; rfl)); intro gb171 hg w13 hbox hb; have n0_ := Aside0.mk (below_step (by repeat (first | (with_reducible first | exact HB.out | apply below_alloc | apply pw_below_drewN | apply below_drew1) | exact HB.out)) hb); have n1_ := Aside0.mk (hbox); have n2_ := Aside0.mk ((by rw [hg]; exact (below_size (by repeat (first | (with_reducible first | exact HB.out | apply below_alloc | apply pw_below_drewN | apply below_drew1) | exact HB.out))) : w.heap.size ≤ gb171)); have n3_ := Aside0.mk ((by rw [hg]; exact (below_size (by repeat (first | (with_reducible first | exact HB.out | apply below_alloc | apply pw_below_drewN | apply below_drew1) | exact HB.out))) : w.heap.size ≤ gb171)); clear HB; have HB := n0_; have BK171 := n1_; have GW171 := n2_; have GE171 := n3_; clear n0_ n1_ n2_ n3_; clear hb hbox hg) | ((with_reducible refine gate_dst (N := 3) rfl ?_); refine box_event ?hg (N := 3) ?hd (cs := #[.int .i64 a1_0, .int .i64 a1_1, .string a1_2, .float .f64 bv1_3]) (t := 96) ?hr ?_; (case hd => rfl); (case hg => rfl); (case hr => first | (go_simp; done) | (go_simp; rfl)); intro gb172 hg w14 hbox hb; have n0_ := Aside0.mk (blk_below (g := gb171) (o := .cells #[.int .i64 a0_0, .int .i64 a0_1, .string a0_2, .float .f64 bv0_3] 96 (0, 0)) (by (with_reducible repeat (first | refine blk_drewN ?_ _ | refine blk_drew ?_ | refine blk_alloc ?_ _)); exact BK171.out) hb); have n1_ := Aside0.mk (below_step (by repeat (first | (with_reducible first | exact HB.out | apply below_alloc | apply pw_below_drewN | apply below_drew1 | refine below_set ?_ GE171.out) | exact HB.out)) hb); have n2_ := Aside0.mk (hbox); have n3_ := Aside0.mk ((by rw [hg]; exact (below_size (by repeat (first | (with_reducible first | exact HB.out | apply below_alloc | apply pw_below_drewN | apply below_drew1 | refine below_set ?_ GE171.out) | exact HB.out))) : w.heap.size ≤ gb172)); have n4_ := Aside0.mk ((by rw [hg]; exact (below_size (by repeat (first | (with_reducible first | exact HB.out | apply below_alloc | apply pw_below_drewN | apply below_drew1 | refine below_set ?_ GE171.out) | exact HB.out))) : w.heap.size ≤ gb172)); have n5_ := Aside0.mk ((by rw [hg]; exact Nat.ne_of_lt (blk_lt (g := gb171) (o := .cells #[.int .i64 a0_0, .int .i64 a0_1, .string a0_2, .float .f64 bv0_3] 96 (0, 0)) (by (with_reducible repeat (first | refine blk_drewN ?_ _ | refine blk_drew ?_ | refine blk_alloc ?_ _)); exact BK171.out)) : gb171 ≠ gb172)); have n6_ := Aside0.mk ((by rw [hg]; exact Nat.ne_of_gt (blk_lt (g := gb171) (o := .cells #[.int .i64 a0_0, .int .i64 a0_1, .string a0_2, .float .f64 bv0_3] 96 (0, 0)) (by (with_reducible repeat (first | refine blk_drewN ?_ _ | refine blk_drew ?_ | refine blk_alloc ?_ _)); exact BK171.out)) : gb172 ≠ gb171)); clear BK171; clear HB; have BK171 := n0_; have HB := n1_; have BK172 := n2_; have GW172 := n3_; have GE172 := n4_; have NB171_172 := n5_; have NB172_171 := n6_; clear n0_ n1_ n2_ n3_ n4_ n5_ n6_; clear hb hbox hg; have hnb15 := NB171_172.out; have hnc15 := NB172_171.out; have hcz16_0 : w14.cell? ⟨gb171, 0, none⟩ = some (.int .i64 a0_0) := (blk_cell BK171.out 0).trans rfl; have hcz16_1 : w14.cell? ⟨gb171, 1, none⟩ = some (.int .i64 a0_1) := (blk_cell BK171.out 1).trans rfl; have hcz16_2 : w14.cell? ⟨gb171, 2, none⟩ = some (.string a0_2) := (blk_cell BK171.out 2).trans rfl; have hcz16_3 : w14.cell? ⟨gb171, 3, none⟩ = some (.float .f64 bv0_3) := (blk_cell BK171.out 3).trans rfl; have hfz16_0 := blk_frozen BK171.out 0; have hfz16_1 := blk_frozen BK171.out 1; have hfz16_2 := blk_frozen BK171.out 2; have hfz16_3 := blk_frozen BK171.out 3; have hcz17_0 : w14.cell? ⟨gb172, 0, none⟩ = some (.int .i64 a1_0) := (blk_cell BK172.out 0).trans rfl; have hcz17_1 : w14.cell? ⟨gb172, 1, none⟩ = some (.int .i64 a1_1) := (blk_cell BK172.out 1).trans rfl; have hcz17_2 : w14.cell? ⟨gb172, 2, none⟩ = some (.string a1_2) := (blk_cell BK172.out 2).trans rfl; have hcz17_3 : w14.cell? ⟨gb172, 3, none⟩ = some (.float .f64 bv1_3) := (blk_cell BK172.out 3).trans rfl; have hfz17_0 := blk_frozen BK172.out 0; have hfz17_1 := blk_frozen BK172.out 1; have hfz17_2 := blk_frozen BK172.out 2; have hfz17_3 := blk_frozen BK172.out 3))
        go_ret
        exact ⟨by first | rfl | (simp [errW_none, errW_some] <;> rfl) | (simp [*, errW_none, errW_some] <;> rfl), by repeat (first | (with_reducible first | exact HB.out | apply below_alloc | apply pw_below_drewN | apply below_drew1 | refine below_set ?_ GE171.out | refine below_set ?_ GE172.out) | exact HB.out)⟩
    · rw [if_neg c4] at H
      have c4b0 : (a0_1 == a1_1) = false := beq_eq_false_iff_ne.mpr c4
      have c4b1 : (a0_1 != a1_1) = true := bne_iff_ne.mpr c4
      obtain rfl := Option.some.inj H
      go_enter Try.func75, Try.ntmps75
      go_wp2_with (first | ((with_reducible refine gate_dst (N := 2) rfl ?_); refine box_event ?hg (N := 2) ?hd (cs := #[.int .i64 a0_0, .int .i64 a0_1, .string a0_2, .float .f64 bv0_3]) (t := 96) ?hr ?_; (case hd => rfl); (case hg => rfl); (case hr => first | (go_simp; done) | (go_simp; rfl)); intro gb171 hg w18 hbox hb; have n0_ := Aside0.mk (below_step (by repeat (first | (with_reducible first | exact HB.out | apply below_alloc | apply pw_below_drewN | apply below_drew1) | exact HB.out)) hb); have n1_ := Aside0.mk (hbox); have n2_ := Aside0.mk ((by rw [hg]; exact (below_size (by repeat (first | (with_reducible first | exact HB.out | apply below_alloc | apply pw_below_drewN | apply below_drew1) | exact HB.out))) : w.heap.size ≤ gb171)); have n3_ := Aside0.mk ((by rw [hg]; exact (below_size (by repeat (first | (with_reducible first | exact HB.out | apply below_alloc | apply pw_below_drewN | apply below_drew1) | exact HB.out))) : w.heap.size ≤ gb171)); clear HB; have HB := n0_; have BK171 := n1_; have GW171 := n2_; have GE171 := n3_; clear n0_ n1_ n2_ n3_; clear hb hbox hg) | ((with_reducible refine gate_dst (N := 3) rfl ?_); refine box_event ?hg (N := 3) ?hd (cs := #[.int .i64 a1_0, .int .i64 a1_1, .string a1_2, .float .f64 bv1_3]) (t := 96) ?hr ?_; (case hd => rfl); (case hg => rfl); (case hr => first | (go_simp; done) | (go_simp; rfl)); intro gb172 hg w19 hbox hb; have n0_ := Aside0.mk (blk_below (g := gb171) (o := .cells #[.int .i64 a0_0, .int .i64 a0_1, .string a0_2, .float .f64 bv0_3] 96 (0, 0)) (by (with_reducible repeat (first | refine blk_drewN ?_ _ | refine blk_drew ?_ | refine blk_alloc ?_ _)); exact BK171.out) hb); have n1_ := Aside0.mk (below_step (by repeat (first | (with_reducible first | exact HB.out | apply below_alloc | apply pw_below_drewN | apply below_drew1 | refine below_set ?_ GE171.out) | exact HB.out)) hb); have n2_ := Aside0.mk (hbox); have n3_ := Aside0.mk ((by rw [hg]; exact (below_size (by repeat (first | (with_reducible first | exact HB.out | apply below_alloc | apply pw_below_drewN | apply below_drew1 | refine below_set ?_ GE171.out) | exact HB.out))) : w.heap.size ≤ gb172)); have n4_ := Aside0.mk ((by rw [hg]; exact (below_size (by repeat (first | (with_reducible first | exact HB.out | apply below_alloc | apply pw_below_drewN | apply below_drew1 | refine below_set ?_ GE171.out) | exact HB.out))) : w.heap.size ≤ gb172)); have n5_ := Aside0.mk ((by rw [hg]; exact Nat.ne_of_lt (blk_lt (g := gb171) (o := .cells #[.int .i64 a0_0, .int .i64 a0_1, .string a0_2, .float .f64 bv0_3] 96 (0, 0)) (by (with_reducible repeat (first | refine blk_drewN ?_ _ | refine blk_drew ?_ | refine blk_alloc ?_ _)); exact BK171.out)) : gb171 ≠ gb172)); have n6_ := Aside0.mk ((by rw [hg]; exact Nat.ne_of_gt (blk_lt (g := gb171) (o := .cells #[.int .i64 a0_0, .int .i64 a0_1, .string a0_2, .float .f64 bv0_3] 96 (0, 0)) (by (with_reducible repeat (first | refine blk_drewN ?_ _ | refine blk_drew ?_ | refine blk_alloc ?_ _)); exact BK171.out)) : gb172 ≠ gb171)); clear BK171; clear HB; have BK171 := n0_; have HB := n1_; have BK172 := n2_; have GW172 := n3_; have GE172 := n4_; have NB171_172 := n5_; have NB172_171 := n6_; clear n0_ n1_ n2_ n3_ n4_ n5_ n6_; clear hb hbox hg; have hnb20 := NB171_172.out; have hnc20 := NB172_171.out; have hcz21_0 : w19.cell? ⟨gb171, 0, none⟩ = some (.int .i64 a0_0) := (blk_cell BK171.out 0).trans rfl; have hcz21_1 : w19.cell? ⟨gb171, 1, none⟩ = some (.int .i64 a0_1) := (blk_cell BK171.out 1).trans rfl; have hcz21_2 : w19.cell? ⟨gb171, 2, none⟩ = some (.string a0_2) := (blk_cell BK171.out 2).trans rfl; have hcz21_3 : w19.cell? ⟨gb171, 3, none⟩ = some (.float .f64 bv0_3) := (blk_cell BK171.out 3).trans rfl; have hfz21_0 := blk_frozen BK171.out 0; have hfz21_1 := blk_frozen BK171.out 1; have hfz21_2 := blk_frozen BK171.out 2; have hfz21_3 := blk_frozen BK171.out 3; have hcz22_0 : w19.cell? ⟨gb172, 0, none⟩ = some (.int .i64 a1_0) := (blk_cell BK172.out 0).trans rfl; have hcz22_1 : w19.cell? ⟨gb172, 1, none⟩ = some (.int .i64 a1_1) := (blk_cell BK172.out 1).trans rfl; have hcz22_2 : w19.cell? ⟨gb172, 2, none⟩ = some (.string a1_2) := (blk_cell BK172.out 2).trans rfl; have hcz22_3 : w19.cell? ⟨gb172, 3, none⟩ = some (.float .f64 bv1_3) := (blk_cell BK172.out 3).trans rfl; have hfz22_0 := blk_frozen BK172.out 0; have hfz22_1 := blk_frozen BK172.out 1; have hfz22_2 := blk_frozen BK172.out 2; have hfz22_3 := blk_frozen BK172.out 3))
      go_ret
      exact ⟨by first | rfl | (simp [errW_none, errW_some] <;> rfl) | (simp [*, errW_none, errW_some] <;> rfl), by repeat (first | (with_reducible first | exact HB.out | apply below_alloc | apply pw_below_drewN | apply below_drew1 | refine below_set ?_ GE171.out | refine below_set ?_ GE172.out) | exact HB.out)⟩
  · rw [if_neg c3] at H
    have c3b0 : (a0_0 == a1_0) = false := beq_eq_false_iff_ne.mpr c3
    have c3b1 : (a0_0 != a1_0) = true := bne_iff_ne.mpr c3
    obtain rfl := Option.some.inj H
    go_enter Try.func75, Try.ntmps75
    go_wp2_with (first | ((with_reducible refine gate_dst (N := 2) rfl ?_); refine box_event ?hg (N := 2) ?hd (cs := #[.int .i64 a0_0, .int .i64 a0_1, .string a0_2, .float .f64 bv0_3]) (t := 96) ?hr ?_; (case hd => rfl); (case hg => rfl); (case hr => first | (go_simp; done) | (go_simp; rfl)); intro gb171 hg w23 hbox hb; have n0_ := Aside0.mk (below_step (by repeat (first | (with_reducible first | exact HB.out | apply below_alloc | apply pw_below_drewN | apply below_drew1) | exact HB.out)) hb); have n1_ := Aside0.mk (hbox); have n2_ := Aside0.mk ((by rw [hg]; exact (below_size (by repeat (first | (with_reducible first | exact HB.out | apply below_alloc | apply pw_below_drewN | apply below_drew1) | exact HB.out))) : w.heap.size ≤ gb171)); have n3_ := Aside0.mk ((by rw [hg]; exact (below_size (by repeat (first | (with_reducible first | exact HB.out | apply below_alloc | apply pw_below_drewN | apply below_drew1) | exact HB.out))) : w.heap.size ≤ gb171)); clear HB; have HB := n0_; have BK171 := n1_; have GW171 := n2_; have GE171 := n3_; clear n0_ n1_ n2_ n3_; clear hb hbox hg) | ((with_reducible refine gate_dst (N := 3) rfl ?_); refine box_event ?hg (N := 3) ?hd (cs := #[.int .i64 a1_0, .int .i64 a1_1, .string a1_2, .float .f64 bv1_3]) (t := 96) ?hr ?_; (case hd => rfl); (case hg => rfl); (case hr => first | (go_simp; done) | (go_simp; rfl)); intro gb172 hg w24 hbox hb; have n0_ := Aside0.mk (blk_below (g := gb171) (o := .cells #[.int .i64 a0_0, .int .i64 a0_1, .string a0_2, .float .f64 bv0_3] 96 (0, 0)) (by (with_reducible repeat (first | refine blk_drewN ?_ _ | refine blk_drew ?_ | refine blk_alloc ?_ _)); exact BK171.out) hb); have n1_ := Aside0.mk (below_step (by repeat (first | (with_reducible first | exact HB.out | apply below_alloc | apply pw_below_drewN | apply below_drew1 | refine below_set ?_ GE171.out) | exact HB.out)) hb); have n2_ := Aside0.mk (hbox); have n3_ := Aside0.mk ((by rw [hg]; exact (below_size (by repeat (first | (with_reducible first | exact HB.out | apply below_alloc | apply pw_below_drewN | apply below_drew1 | refine below_set ?_ GE171.out) | exact HB.out))) : w.heap.size ≤ gb172)); have n4_ := Aside0.mk ((by rw [hg]; exact (below_size (by repeat (first | (with_reducible first | exact HB.out | apply below_alloc | apply pw_below_drewN | apply below_drew1 | refine below_set ?_ GE171.out) | exact HB.out))) : w.heap.size ≤ gb172)); have n5_ := Aside0.mk ((by rw [hg]; exact Nat.ne_of_lt (blk_lt (g := gb171) (o := .cells #[.int .i64 a0_0, .int .i64 a0_1, .string a0_2, .float .f64 bv0_3] 96 (0, 0)) (by (with_reducible repeat (first | refine blk_drewN ?_ _ | refine blk_drew ?_ | refine blk_alloc ?_ _)); exact BK171.out)) : gb171 ≠ gb172)); have n6_ := Aside0.mk ((by rw [hg]; exact Nat.ne_of_gt (blk_lt (g := gb171) (o := .cells #[.int .i64 a0_0, .int .i64 a0_1, .string a0_2, .float .f64 bv0_3] 96 (0, 0)) (by (with_reducible repeat (first | refine blk_drewN ?_ _ | refine blk_drew ?_ | refine blk_alloc ?_ _)); exact BK171.out)) : gb172 ≠ gb171)); clear BK171; clear HB; have BK171 := n0_; have HB := n1_; have BK172 := n2_; have GW172 := n3_; have GE172 := n4_; have NB171_172 := n5_; have NB172_171 := n6_; clear n0_ n1_ n2_ n3_ n4_ n5_ n6_; clear hb hbox hg; have hnb25 := NB171_172.out; have hnc25 := NB172_171.out; have hcz26_0 : w24.cell? ⟨gb171, 0, none⟩ = some (.int .i64 a0_0) := (blk_cell BK171.out 0).trans rfl; have hcz26_1 : w24.cell? ⟨gb171, 1, none⟩ = some (.int .i64 a0_1) := (blk_cell BK171.out 1).trans rfl; have hcz26_2 : w24.cell? ⟨gb171, 2, none⟩ = some (.string a0_2) := (blk_cell BK171.out 2).trans rfl; have hcz26_3 : w24.cell? ⟨gb171, 3, none⟩ = some (.float .f64 bv0_3) := (blk_cell BK171.out 3).trans rfl; have hfz26_0 := blk_frozen BK171.out 0; have hfz26_1 := blk_frozen BK171.out 1; have hfz26_2 := blk_frozen BK171.out 2; have hfz26_3 := blk_frozen BK171.out 3; have hcz27_0 : w24.cell? ⟨gb172, 0, none⟩ = some (.int .i64 a1_0) := (blk_cell BK172.out 0).trans rfl; have hcz27_1 : w24.cell? ⟨gb172, 1, none⟩ = some (.int .i64 a1_1) := (blk_cell BK172.out 1).trans rfl; have hcz27_2 : w24.cell? ⟨gb172, 2, none⟩ = some (.string a1_2) := (blk_cell BK172.out 2).trans rfl; have hcz27_3 : w24.cell? ⟨gb172, 3, none⟩ = some (.float .f64 bv1_3) := (blk_cell BK172.out 3).trans rfl; have hfz27_0 := blk_frozen BK172.out 0; have hfz27_1 := blk_frozen BK172.out 1; have hfz27_2 := blk_frozen BK172.out 2; have hfz27_3 := blk_frozen BK172.out 3))
    go_ret
    exact ⟨by first | rfl | (simp [errW_none, errW_some] <;> rfl) | (simp [*, errW_none, errW_some] <;> rfl), by repeat (first | (with_reducible first | exact HB.out | apply below_alloc | apply pw_below_drewN | apply below_drew1 | refine below_set ?_ GE171.out | refine below_set ?_ GE172.out) | exact HB.out)⟩
def bonsairef13_Alike.f (a0_0 : Int) (a0_1 : Int) (a0_2 : Int) (a0_3 : Int) (a0_4 : ByteArray) (a0_5 : Int) (a1_0 : Int) (a1_1 : Int) (a1_2 : Int) (a1_3 : Int) (a1_4 : ByteArray) (a1_5 : Int) : Option (Bool) := if (a0_0 == a1_0 && (a0_1 == a1_1)) = true then ((bonsairef13_Row.f a0_0 a0_1 a0_2 a0_3 a0_4 a0_5).bind fun bt176 => ((bonsairef13_Row.f a1_0 a1_1 a1_2 a1_3 a1_4 a1_5).bind fun bt181 => ((bonsairef12_Alike.f bt176.1 bt176.2.1 bt176.2.2.1 bt176.2.2.2 bt181.1 bt181.2.1 bt181.2.2.1 bt181.2.2.2).bind fun t186 => (some t186)))) else (some false)
def bonsairef13_Alike.T1 : Bool × List (List Nat × List Nat) := (true, [([], []), ([0], [0]), ([], []), ([2], [2]), ([1, 3], [1, 3]), ([4], [4]), ([5], [5]), ([6, 5, 5], [5, 6]), ([5], [5]), ([8, 7, 5], [5, 8]), ([7, 9, 9, 5], [5, 7, 9]), ([5, 10], [5, 10]), ([11, 10, 0, 1, 2, 3, 4, 5, 6, 7, 8, 9, 10, 11], [11])])
def bonsairef13_Alike.B1 : List Nat := [0, 1, 0, 4, 15, 31, 63, 127, 63, 511, 1023, 2047, 4095]
theorem bonsairef13_Alike.tab1 : rtab .any (opsOf Try.f44 1) = bonsairef13_Alike.T1 := by kernel_rfl
theorem bonsairef13_Alike.bits1 : waitsOk bonsairef13_Alike.T1.2 bonsairef13_Alike.B1 = true := by kernel_rfl
set_option maxHeartbeats 8000000 in
set_option maxRecDepth 100000 in
theorem bonsairef13_Alike.calls (a0_0 : Int) (a0_1 : Int) (a0_2 : Int) (a0_3 : Int) (a0_4 : ByteArray) (bv0_5 : Nat) (a0_5 : Int) (a1_0 : Int) (a1_1 : Int) (a1_2 : Int) (a1_3 : Int) (a1_4 : ByteArray) (bv1_5 : Nat) (a1_5 : Int) (r : Bool) (w : World) (bq0_5 : FB bv0_5 a0_5) (bq1_5 : FB bv1_5 a1_5) (h : bonsairef13_Alike.f a0_0 a0_1 a0_2 a0_3 a0_4 a0_5 a1_0 a1_1 a1_2 a1_3 a1_4 a1_5 = some r) :
    Calls Try.prog 44 #[.agg #[.int .i64 a0_0, .int .i64 a0_1, .int .i64 a0_2, .int .i64 a0_3, .string a0_4, .float .f64 bv0_5], .agg #[.int .i64 a1_0, .int .i64 a1_1, .int .i64 a1_2, .int .i64 a1_3, .string a1_4, .float .f64 bv1_5]] w fun e w' => e = .returned (.bool r) ∧ Below w.heap.size w w' := by
  have hu30 := Try.underlying30
  have hu27 := Try.underlying27
  have HB := Aside0.mk (Below.refl w.heap.size w)
  have H : (if (a0_0 == a1_0 && (a0_1 == a1_1)) = true then ((bonsairef13_Row.f a0_0 a0_1 a0_2 a0_3 a0_4 a0_5).bind fun bt176 => ((bonsairef13_Row.f a1_0 a1_1 a1_2 a1_3 a1_4 a1_5).bind fun bt181 => ((bonsairef12_Alike.f bt176.1 bt176.2.1 bt176.2.2.1 bt176.2.2.2 bt181.1 bt181.2.1 bt181.2.2.1 bt181.2.2.2).bind fun t186 => (some t186)))) else (some false)) = some r := h
  clear h
  by_cases c3 : (a0_0 == a1_0 && (a0_1 == a1_1)) = true
  · rw [if_pos c3] at H
    have c3b0 : (a0_0 == a1_0 && (a0_1 == a1_1)) = true := c3
    (try (have c3b1 : decide (a0_0 = a1_0 && (a0_1 == a1_1)) = true := by simpa using c3))
    (try (have c3b2 : (a0_0 == a1_0 && (a0_1 == a1_1)) = true := by simpa using c3))
    clear c3
    replace H := Option.bind_eq_some_iff.mp H
    obtain ⟨⟨t176, t177, t178, t179⟩, A40, H⟩ := H
    replace H : ((bonsairef13_Row.f a1_0 a1_1 a1_2 a1_3 a1_4 a1_5).bind fun bt181 => ((bonsairef12_Alike.f t176 t177 t178 t179 bt181.1 bt181.2.1 bt181.2.2.1 bt181.2.2.2).bind fun t186 => (some t186))) = some r := H
    have A4 := Aside0.mk A40
    clear A40
    replace H := Option.bind_eq_some_iff.mp H
    obtain ⟨⟨t181, t182, t183, t184⟩, A50, H⟩ := H
    replace H : ((bonsairef12_Alike.f t176 t177 t178 t179 t181 t182 t183 t184).bind fun t186 => (some t186)) = some r := H
    have A5 := Aside0.mk A50
    clear A50
    replace H := Option.bind_eq_some_iff.mp H
    obtain ⟨t186, A60, H⟩ := H
    replace H : (some t186) = some r := H
    have A6 := Aside0.mk A60
    clear A60
    obtain rfl := Option.some.inj H
    go_enter Try.func44, Try.ntmps44
    try go_wp2_with (first | ((with_reducible refine gate_dst (N := 2) rfl ?_); refine box_event ?hg (N := 2) ?hd (cs := #[.int .i64 a0_0, .int .i64 a0_1, .int .i64 a0_2, .int .i64 a0_3, .string a0_4, .float .f64 bv0_5]) (t := 30) ?hr ?_; (case hd => rfl); (case hg => rfl); (case hr => first | (go_simp; done) | (go_simp; rfl)); intro gb174 hg w7 hbox hb; have n0_ := Aside0.mk (below_step (by repeat (first | (with_reducible first | exact HB.out | apply below_alloc | apply pw_below_drewN | apply below_drew1) | exact HB.out)) hb); have n1_ := Aside0.mk (hbox); have n2_ := Aside0.mk ((by rw [hg]; exact (below_size (by repeat (first | (with_reducible first | exact HB.out | apply below_alloc | apply pw_below_drewN | apply below_drew1) | exact HB.out))) : w.heap.size ≤ gb174)); have n3_ := Aside0.mk ((by rw [hg]; exact (below_size (by repeat (first | (with_reducible first | exact HB.out | apply below_alloc | apply pw_below_drewN | apply below_drew1) | exact HB.out))) : w.heap.size ≤ gb174)); clear HB; have HB := n0_; have BK174 := n1_; have GW174 := n2_; have GE174 := n3_; clear n0_ n1_ n2_ n3_; clear hb hbox hg) | ((with_reducible refine gate_dst (N := 3) rfl ?_); refine box_event ?hg (N := 3) ?hd (cs := #[.int .i64 a1_0, .int .i64 a1_1, .int .i64 a1_2, .int .i64 a1_3, .string a1_4, .float .f64 bv1_5]) (t := 30) ?hr ?_; (case hd => rfl); (case hg => rfl); (case hr => first | (go_simp; done) | (go_simp; rfl)); intro gb175 hg w8 hbox hb; have n0_ := Aside0.mk (blk_below (g := gb174) (o := .cells #[.int .i64 a0_0, .int .i64 a0_1, .int .i64 a0_2, .int .i64 a0_3, .string a0_4, .float .f64 bv0_5] 30 (0, 0)) (by (with_reducible repeat (first | refine blk_drewN ?_ _ | refine blk_drew ?_ | refine blk_alloc ?_ _)); exact BK174.out) hb); have n1_ := Aside0.mk (below_step (by repeat (first | (with_reducible first | exact HB.out | apply below_alloc | apply pw_below_drewN | apply below_drew1 | refine below_set ?_ GE174.out) | exact HB.out)) hb); have n2_ := Aside0.mk (hbox); have n3_ := Aside0.mk ((by rw [hg]; exact (below_size (by repeat (first | (with_reducible first | exact HB.out | apply below_alloc | apply pw_below_drewN | apply below_drew1 | refine below_set ?_ GE174.out) | exact HB.out))) : w.heap.size ≤ gb175)); have n4_ := Aside0.mk ((by rw [hg]; exact (below_size (by repeat (first | (with_reducible first | exact HB.out | apply below_alloc | apply pw_below_drewN | apply below_drew1 | refine below_set ?_ GE174.out) | exact HB.out))) : w.heap.size ≤ gb175)); have n5_ := Aside0.mk ((by rw [hg]; exact Nat.ne_of_lt (blk_lt (g := gb174) (o := .cells #[.int .i64 a0_0, .int .i64 a0_1, .int .i64 a0_2, .int .i64 a0_3, .string a0_4, .float .f64 bv0_5] 30 (0, 0)) (by (with_reducible repeat (first | refine blk_drewN ?_ _ | refine blk_drew ?_ | refine blk_alloc ?_ _)); exact BK174.out)) : gb174 ≠ gb175)); have n6_ := Aside0.mk ((by rw [hg]; exact Nat.ne_of_gt (blk_lt (g := gb174) (o := .cells #[.int .i64 a0_0, .int .i64 a0_1, .int .i64 a0_2, .int .i64 a0_3, .string a0_4, .float .f64 bv0_5] 30 (0, 0)) (by (with_reducible repeat (first | refine blk_drewN ?_ _ | refine blk_drew ?_ | refine blk_alloc ?_ _)); exact BK174.out)) : gb175 ≠ gb174)); clear BK174; clear HB; have BK174 := n0_; have HB := n1_; have BK175 := n2_; have GW175 := n3_; have GE175 := n4_; have NB174_175 := n5_; have NB175_174 := n6_; clear n0_ n1_ n2_ n3_ n4_ n5_ n6_; clear hb hbox hg))
    have n0_ := Aside0.mk (blk_drew BK174.out)
    have n1_ := Aside0.mk (blk_drew BK175.out)
    have n2_ := Aside0.mk (below_drew1 HB.out)
    clear BK174
    clear BK175
    clear HB
    have BK174 := n0_
    have BK175 := n1_
    have HB := n2_
    clear n0_ n1_ n2_
    refine start_ (n := 13) (S := fun w' => w'.cell? ⟨gb174, 0, none⟩ = some (.int .i64 a0_0) ∧ w'.cell? ⟨gb174, 1, none⟩ = some (.int .i64 a0_1) ∧ w'.cell? ⟨gb174, 2, none⟩ = some (.int .i64 a0_2) ∧ w'.cell? ⟨gb174, 3, none⟩ = some (.int .i64 a0_3) ∧ w'.cell? ⟨gb174, 4, none⟩ = some (.string a0_4) ∧ w'.cell? ⟨gb174, 5, none⟩ = some (.float .f64 bv0_5) ∧ w'.cell? ⟨gb175, 0, none⟩ = some (.int .i64 a1_0) ∧ w'.cell? ⟨gb175, 1, none⟩ = some (.int .i64 a1_1) ∧ w'.cell? ⟨gb175, 2, none⟩ = some (.int .i64 a1_2) ∧ w'.cell? ⟨gb175, 3, none⟩ = some (.int .i64 a1_3) ∧ w'.cell? ⟨gb175, 4, none⟩ = some (.string a1_4) ∧ w'.cell? ⟨gb175, 5, none⟩ = some (.float .f64 bv1_5)) (ds := []) #[false, false, false, false, false, false, false, false, false, false, false, false, false] (by kernel_rfl) rfl rfl ⟨(blk_cell BK174.out 0).trans rfl, (blk_cell BK174.out 1).trans rfl, (blk_cell BK174.out 2).trans rfl, (blk_cell BK174.out 3).trans rfl, (blk_cell BK174.out 4).trans rfl, (blk_cell BK174.out 5).trans rfl, (blk_cell BK175.out 0).trans rfl, (blk_cell BK175.out 1).trans rfl, (blk_cell BK175.out 2).trans rfl, (blk_cell BK175.out 3).trans rfl, (blk_cell BK175.out 4).trans rfl, (blk_cell BK175.out 5).trans rfl⟩ (fun hHeld => ?_); refine with_tabW bonsairef13_Alike.tab1 bonsairef13_Alike.bits1 (fun HT_ HW_ => ?_)
    generalize w8.drew = w9 at BK174 BK175 HB hHeld ⊢
    refine pure_ (i := 0) (N := some 5) (v := ?_) (a' := ?_) #[true, false, false, false, false, false, false, false, false, false, false, false, false] rfl rfl (any_of HT_.out (by kernel_rfl)) (fun _ _ _ h => h) (Or.inl ⟨by rfl, ?_⟩) ?_ ?_
    rotate_left
    · intro w'
      go_simp
      with_reducible rfl
    rotate_left
    · simp only [Act.put, List.setIfInBounds_toArray, List.set_cons_zero, List.set_cons_succ, i64_w, i32_w]
      rfl
    refine pure_ (i := 2) (N := some 7) (v := ?_) (a' := ?_) #[true, false, true, false, false, false, false, false, false, false, false, false, false] rfl rfl (any_of HT_.out (by kernel_rfl)) (fun _ _ _ h => h) (Or.inl ⟨by rfl, ?_⟩) ?_ ?_
    rotate_left
    · intro w'
      go_simp
      with_reducible rfl
    rotate_left
    · simp only [Act.put, List.setIfInBounds_toArray, List.set_cons_zero, List.set_cons_succ, i64_w, i32_w]
      rfl
    refine take_ (i := 1) (N := some 6) (v := ?_) (a' := ?_) #[true, true, true, false, false, false, false, false, false, false, false, false, false] rfl rfl (take_ofW HT_.out HW_.out (by kernel_rfl)) (fun _ _ _ h => h) (Or.inl ⟨by rfl, ?_⟩) hHeld ?_ ?_
    rotate_left
    · rintro w' ⟨s0, s1, s2, s3, s4, s5, s6, s7, s8, s9, s10, s11⟩
      go_simp
      with_reducible rfl
    rotate_left
    · simp only [Act.put, List.setIfInBounds_toArray, List.set_cons_zero, List.set_cons_succ, i64_w, i32_w]
      rfl
    refine take_ (i := 3) (N := some 8) (v := ?_) (a' := ?_) #[true, true, true, true, false, false, false, false, false, false, false, false, false] rfl rfl (take_ofW HT_.out HW_.out (by kernel_rfl)) (fun _ _ _ h => h) (Or.inl ⟨by rfl, ?_⟩) hHeld ?_ ?_
    rotate_left
    · rintro w' ⟨s0, s1, s2, s3, s4, s5, s6, s7, s8, s9, s10, s11⟩
      go_simp
      with_reducible rfl
    rotate_left
    · simp only [Act.put, List.setIfInBounds_toArray, List.set_cons_zero, List.set_cons_succ, i64_w, i32_w]
      rfl
    refine pure_ (i := 4) (N := some 9) (v := ?_) (a' := ?_) #[true, true, true, true, true, false, false, false, false, false, false, false, false] rfl rfl (any_of HT_.out (by kernel_rfl)) (fun _ _ _ h => h) (Or.inl ⟨by rfl, ?_⟩) ?_ ?_
    rotate_left
    · intro w'
      go_simp
      with_reducible rfl
    rotate_left
    · simp only [Act.put, List.setIfInBounds_toArray, List.set_cons_zero, List.set_cons_succ, i64_w, i32_w]
      rfl
    refine pure_ (i := 5) (N := some 10) (v := ?_) (a' := ?_) #[true, true, true, true, true, true, false, false, false, false, false, false, false] rfl rfl (any_of HT_.out (by kernel_rfl)) (fun _ _ _ h => h) (Or.inl ⟨by rfl, ?_⟩) ?_ ?_
    rotate_left
    · intro w'
      go_simp
      with_reducible rfl
    rotate_left
    · simp only [Act.put, List.setIfInBounds_toArray, List.set_cons_zero, List.set_cons_succ, i64_w, i32_w]
      rfl
    refine take_ (i := 6) (N := some 11) (v := ?_) (a' := ?_) #[true, true, true, true, true, true, true, false, false, false, false, false, false] rfl rfl (take_ofW HT_.out HW_.out (by kernel_rfl)) (fun _ _ _ h => h) (Or.inl ⟨by rfl, ?_⟩) hHeld ?_ ?_
    rotate_left
    · rintro w' ⟨s0, s1, s2, s3, s4, s5, s6, s7, s8, s9, s10, s11⟩
      go_simp
      with_reducible rfl
    rotate_left
    · simp only [Act.put, List.setIfInBounds_toArray, List.set_cons_zero, List.set_cons_succ, i64_w, i32_w]
      rfl
    refine take_ (i := 8) (N := some 13) (v := ?_) (a' := ?_) #[true, true, true, true, true, true, true, false, true, false, false, false, false] rfl rfl (take_ofW HT_.out HW_.out (by kernel_rfl)) (fun _ _ _ h => h) (Or.inl ⟨by rfl, ?_⟩) hHeld ?_ ?_
    rotate_left
    · rintro w' ⟨s0, s1, s2, s3, s4, s5, s6, s7, s8, s9, s10, s11⟩
      go_simp
      with_reducible rfl
    rotate_left
    · simp only [Act.put, List.setIfInBounds_toArray, List.set_cons_zero, List.set_cons_succ, i64_w, i32_w]
      rfl
    refine one_ (i := 7) (N := some 12) #[true, true, true, true, true, true, true, true, true, false, false, false, false] rfl rfl (one_of HT_.out (by kernel_rfl)) (by decide) (fun K hK => ?_)
    refine goes_ Try.func74 (by kernel_rfl) rfl #[.agg #[.int .i64 a0_0, .int .i64 a0_1, .int .i64 a0_2, .int .i64 a0_3, .string a0_4, .float .f64 bv0_5]] (by rfl) rfl rfl (by (try simp only [List.map_toArray, List.map_cons, List.map_nil]); first | done | rfl | (simp only [List.length_drop, List.length_take]; rfl)) ?_
    with_reducible refine (bonsairef13_Row.calls a0_0 a0_1 a0_2 a0_3 a0_4 _ a0_5 t176 t177 t178 t179 _ ?side1 A4.out).mono ?_
    (case side1 => exact (by first | assumption | exact FB_lit _ _ rfl | exact FB_int _ | simpa using (by assumption)))
    rintro e w10 ⟨bv180, rfl, bq180, hb⟩
    refine ⟨_, rfl, ?_⟩
    have n0_ := Aside0.mk (blk_below (g := gb174) (o := .cells #[.int .i64 a0_0, .int .i64 a0_1, .int .i64 a0_2, .int .i64 a0_3, .string a0_4, .float .f64 bv0_5] 30 (0, 0)) (by (with_reducible repeat (first | refine blk_drewN ?_ _ | refine blk_drew ?_ | refine blk_alloc ?_ _)); exact BK174.out) hb)
    have n1_ := Aside0.mk (blk_below (g := gb175) (o := .cells #[.int .i64 a1_0, .int .i64 a1_1, .int .i64 a1_2, .int .i64 a1_3, .string a1_4, .float .f64 bv1_5] 30 (0, 0)) (by (with_reducible repeat (first | refine blk_drewN ?_ _ | refine blk_drew ?_ | refine blk_alloc ?_ _)); exact BK175.out) hb)
    have n2_ := Aside0.mk (below_step (by repeat (first | (with_reducible first | exact HB.out | apply below_alloc | apply pw_below_drewN | apply below_drew1 | refine below_set ?_ GE174.out | refine below_set ?_ GE175.out) | exact HB.out)) hb)
    clear BK174
    clear BK175
    clear HB
    have BK174 := n0_
    have BK175 := n1_
    have HB := n2_
    clear n0_ n1_ n2_
    (try clear hb)
    (try clear hb2)
    (try clear hk)
    (try clear hi)
    refine hK.out _ _ ⟨(blk_cell BK174.out 0).trans rfl, (blk_cell BK174.out 1).trans rfl, (blk_cell BK174.out 2).trans rfl, (blk_cell BK174.out 3).trans rfl, (blk_cell BK174.out 4).trans rfl, (blk_cell BK174.out 5).trans rfl, (blk_cell BK175.out 0).trans rfl, (blk_cell BK175.out 1).trans rfl, (blk_cell BK175.out 2).trans rfl, (blk_cell BK175.out 3).trans rfl, (blk_cell BK175.out 4).trans rfl, (blk_cell BK175.out 5).trans rfl⟩ (fun hHeld => ?_)
    clear hK K
    refine norm_ (a' := ?_) ?_ ?_
    rotate_left
    · show Act.put _ (some 12) _ = _
      simp only [Act.put, List.setIfInBounds_toArray, List.set_cons_zero, List.set_cons_succ, i64_w, i32_w]
      rfl
    refine one_ (i := 9) (N := some 14) #[true, true, true, true, true, true, true, true, true, true, false, false, false] rfl rfl (one_of HT_.out (by kernel_rfl)) (by decide) (fun K hK => ?_)
    refine goes_ Try.func74 (by kernel_rfl) rfl #[.agg #[.int .i64 a1_0, .int .i64 a1_1, .int .i64 a1_2, .int .i64 a1_3, .string a1_4, .float .f64 bv1_5]] (by rfl) rfl rfl (by (try simp only [List.map_toArray, List.map_cons, List.map_nil]); first | done | rfl | (simp only [List.length_drop, List.length_take]; rfl)) ?_
    with_reducible refine (bonsairef13_Row.calls a1_0 a1_1 a1_2 a1_3 a1_4 _ a1_5 t181 t182 t183 t184 _ ?side1 A5.out).mono ?_
    (case side1 => exact (by first | assumption | exact FB_lit _ _ rfl | exact FB_int _ | simpa using (by assumption)))
    rintro e w11 ⟨bv185, rfl, bq185, hb⟩
    refine ⟨_, rfl, ?_⟩
    have n0_ := Aside0.mk (blk_below (g := gb174) (o := .cells #[.int .i64 a0_0, .int .i64 a0_1, .int .i64 a0_2, .int .i64 a0_3, .string a0_4, .float .f64 bv0_5] 30 (0, 0)) (by (with_reducible repeat (first | refine blk_drewN ?_ _ | refine blk_drew ?_ | refine blk_alloc ?_ _)); exact BK174.out) hb)
    have n1_ := Aside0.mk (blk_below (g := gb175) (o := .cells #[.int .i64 a1_0, .int .i64 a1_1, .int .i64 a1_2, .int .i64 a1_3, .string a1_4, .float .f64 bv1_5] 30 (0, 0)) (by (with_reducible repeat (first | refine blk_drewN ?_ _ | refine blk_drew ?_ | refine blk_alloc ?_ _)); exact BK175.out) hb)
    have n2_ := Aside0.mk (below_step (by repeat (first | (with_reducible first | exact HB.out | apply below_alloc | apply pw_below_drewN | apply below_drew1 | refine below_set ?_ GE174.out | refine below_set ?_ GE175.out) | exact HB.out)) hb)
    clear BK174
    clear BK175
    clear HB
    have BK174 := n0_
    have BK175 := n1_
    have HB := n2_
    clear n0_ n1_ n2_
    (try clear hb)
    (try clear hb2)
    (try clear hk)
    (try clear hi)
    refine hK.out _ _ ⟨(blk_cell BK174.out 0).trans rfl, (blk_cell BK174.out 1).trans rfl, (blk_cell BK174.out 2).trans rfl, (blk_cell BK174.out 3).trans rfl, (blk_cell BK174.out 4).trans rfl, (blk_cell BK174.out 5).trans rfl, (blk_cell BK175.out 0).trans rfl, (blk_cell BK175.out 1).trans rfl, (blk_cell BK175.out 2).trans rfl, (blk_cell BK175.out 3).trans rfl, (blk_cell BK175.out 4).trans rfl, (blk_cell BK175.out 5).trans rfl⟩ (fun hHeld => ?_)
    clear hK K
    refine norm_ (a' := ?_) ?_ ?_
    rotate_left
    · show Act.put _ (some 14) _ = _
      simp only [Act.put, List.setIfInBounds_toArray, List.set_cons_zero, List.set_cons_succ, i64_w, i32_w]
      rfl
    refine one_ (i := 10) (N := some 15) #[true, true, true, true, true, true, true, true, true, true, true, false, false] rfl rfl (one_of HT_.out (by kernel_rfl)) (by decide) (fun K hK => ?_)
    refine goes_ Try.func75 (by kernel_rfl) rfl #[.agg #[.int .i64 t176, .int .i64 t177, .string t178, .float .f64 bv180], .agg #[.int .i64 t181, .int .i64 t182, .string t183, .float .f64 bv185]] (by rfl) rfl rfl (by (try simp only [List.map_toArray, List.map_cons, List.map_nil]); first | done | rfl | (simp only [List.length_drop, List.length_take]; rfl)) ?_
    with_reducible refine (bonsairef12_Alike.calls t176 t177 t178 _ t179 t181 t182 t183 _ t184 t186 _ ?side1 ?side2 A6.out).mono ?_
    (case side1 => exact (by first | assumption | exact FB_lit _ _ rfl | exact FB_int _ | simpa using (by assumption)))
    (case side2 => exact (by first | assumption | exact FB_lit _ _ rfl | exact FB_int _ | simpa using (by assumption)))
    rintro e w12 ⟨rfl, hb⟩
    refine ⟨_, rfl, ?_⟩
    have n0_ := Aside0.mk (blk_below (g := gb174) (o := .cells #[.int .i64 a0_0, .int .i64 a0_1, .int .i64 a0_2, .int .i64 a0_3, .string a0_4, .float .f64 bv0_5] 30 (0, 0)) (by (with_reducible repeat (first | refine blk_drewN ?_ _ | refine blk_drew ?_ | refine blk_alloc ?_ _)); exact BK174.out) hb)
    have n1_ := Aside0.mk (blk_below (g := gb175) (o := .cells #[.int .i64 a1_0, .int .i64 a1_1, .int .i64 a1_2, .int .i64 a1_3, .string a1_4, .float .f64 bv1_5] 30 (0, 0)) (by (with_reducible repeat (first | refine blk_drewN ?_ _ | refine blk_drew ?_ | refine blk_alloc ?_ _)); exact BK175.out) hb)
    have n2_ := Aside0.mk (below_step (by repeat (first | (with_reducible first | exact HB.out | apply below_alloc | apply pw_below_drewN | apply below_drew1 | refine below_set ?_ GE174.out | refine below_set ?_ GE175.out) | exact HB.out)) hb)
    clear BK174
    clear BK175
    clear HB
    have BK174 := n0_
    have BK175 := n1_
    have HB := n2_
    clear n0_ n1_ n2_
    (try clear hb)
    (try clear hb2)
    (try clear hk)
    (try clear hi)
    refine hK.out _ _ ⟨(blk_cell BK174.out 0).trans rfl, (blk_cell BK174.out 1).trans rfl, (blk_cell BK174.out 2).trans rfl, (blk_cell BK174.out 3).trans rfl, (blk_cell BK174.out 4).trans rfl, (blk_cell BK174.out 5).trans rfl, (blk_cell BK175.out 0).trans rfl, (blk_cell BK175.out 1).trans rfl, (blk_cell BK175.out 2).trans rfl, (blk_cell BK175.out 3).trans rfl, (blk_cell BK175.out 4).trans rfl, (blk_cell BK175.out 5).trans rfl⟩ (fun hHeld => ?_)
    clear hK K
    refine norm_ (a' := ?_) ?_ ?_
    rotate_left
    · show Act.put _ (some 15) _ = _
      simp only [Act.put, List.setIfInBounds_toArray, List.set_cons_zero, List.set_cons_succ, i64_w, i32_w]
      rfl
    refine pure_ (i := 11) (N := some 16) (v := ?_) (a' := ?_) #[true, true, true, true, true, true, true, true, true, true, true, true, false] rfl rfl (any_of HT_.out (by kernel_rfl)) (fun _ _ _ h => h) (Or.inl ⟨by rfl, ?_⟩) ?_ ?_
    rotate_left
    · intro w'
      go_simp
      with_reducible rfl
    rotate_left
    · simp only [Act.put, List.setIfInBounds_toArray, List.set_cons_zero, List.set_cons_succ, i64_w, i32_w]
      rfl
    refine pure_ (i := 12) (N := some 4) (v := ?_) (a' := ?_) #[true, true, true, true, true, true, true, true, true, true, true, true, true] rfl rfl (any_of HT_.out (by kernel_rfl)) (fun _ _ _ h => h) (Or.inl ⟨by rfl, ?_⟩) ?_ ?_
    rotate_left
    · intro w'
      go_simp
      with_reducible rfl
    rotate_left
    · simp only [Act.put, List.setIfInBounds_toArray, List.set_cons_zero, List.set_cons_succ, i64_w, i32_w]
      rfl
    refine done_ (done_of HT_.out (by kernel_rfl)) ?_
    try go_wp2
    go_ret
    exact ⟨by first | rfl | (simp [errW_none, errW_some] <;> rfl) | (simp [*, errW_none, errW_some] <;> rfl), by repeat (first | (with_reducible first | exact HB.out | apply below_alloc | apply pw_below_drewN | apply below_drew1 | refine below_set ?_ GE174.out | refine below_set ?_ GE175.out) | exact HB.out)⟩
  · rw [if_neg c3] at H
    have c3b0 : (a0_0 == a1_0 && (a0_1 == a1_1)) = false := by simpa using c3
    (try (have c3b1 : decide (a0_0 = a1_0 && (a0_1 == a1_1)) = false := by simpa using c3))
    (try (have c3b2 : (a0_0 == a1_0 && (a0_1 == a1_1)) = false := by simpa using c3))
    (try (have c3b3 : ¬ (a0_0 = a1_0 && (a0_1 == a1_1)) := by simpa using c3))
    clear c3
    obtain rfl := Option.some.inj H
    go_enter Try.func44, Try.ntmps44
    try go_wp2_with (first | ((with_reducible refine gate_dst (N := 2) rfl ?_); refine box_event ?hg (N := 2) ?hd (cs := #[.int .i64 a0_0, .int .i64 a0_1, .int .i64 a0_2, .int .i64 a0_3, .string a0_4, .float .f64 bv0_5]) (t := 30) ?hr ?_; (case hd => rfl); (case hg => rfl); (case hr => first | (go_simp; done) | (go_simp; rfl)); intro gb174 hg w13 hbox hb; have n0_ := Aside0.mk (below_step (by repeat (first | (with_reducible first | exact HB.out | apply below_alloc | apply pw_below_drewN | apply below_drew1) | exact HB.out)) hb); have n1_ := Aside0.mk (hbox); have n2_ := Aside0.mk ((by rw [hg]; exact (below_size (by repeat (first | (with_reducible first | exact HB.out | apply below_alloc | apply pw_below_drewN | apply below_drew1) | exact HB.out))) : w.heap.size ≤ gb174)); have n3_ := Aside0.mk ((by rw [hg]; exact (below_size (by repeat (first | (with_reducible first | exact HB.out | apply below_alloc | apply pw_below_drewN | apply below_drew1) | exact HB.out))) : w.heap.size ≤ gb174)); clear HB; have HB := n0_; have BK174 := n1_; have GW174 := n2_; have GE174 := n3_; clear n0_ n1_ n2_ n3_; clear hb hbox hg) | ((with_reducible refine gate_dst (N := 3) rfl ?_); refine box_event ?hg (N := 3) ?hd (cs := #[.int .i64 a1_0, .int .i64 a1_1, .int .i64 a1_2, .int .i64 a1_3, .string a1_4, .float .f64 bv1_5]) (t := 30) ?hr ?_; (case hd => rfl); (case hg => rfl); (case hr => first | (go_simp; done) | (go_simp; rfl)); intro gb175 hg w14 hbox hb; have n0_ := Aside0.mk (blk_below (g := gb174) (o := .cells #[.int .i64 a0_0, .int .i64 a0_1, .int .i64 a0_2, .int .i64 a0_3, .string a0_4, .float .f64 bv0_5] 30 (0, 0)) (by (with_reducible repeat (first | refine blk_drewN ?_ _ | refine blk_drew ?_ | refine blk_alloc ?_ _)); exact BK174.out) hb); have n1_ := Aside0.mk (below_step (by repeat (first | (with_reducible first | exact HB.out | apply below_alloc | apply pw_below_drewN | apply below_drew1 | refine below_set ?_ GE174.out) | exact HB.out)) hb); have n2_ := Aside0.mk (hbox); have n3_ := Aside0.mk ((by rw [hg]; exact (below_size (by repeat (first | (with_reducible first | exact HB.out | apply below_alloc | apply pw_below_drewN | apply below_drew1 | refine below_set ?_ GE174.out) | exact HB.out))) : w.heap.size ≤ gb175)); have n4_ := Aside0.mk ((by rw [hg]; exact (below_size (by repeat (first | (with_reducible first | exact HB.out | apply below_alloc | apply pw_below_drewN | apply below_drew1 | refine below_set ?_ GE174.out) | exact HB.out))) : w.heap.size ≤ gb175)); have n5_ := Aside0.mk ((by rw [hg]; exact Nat.ne_of_lt (blk_lt (g := gb174) (o := .cells #[.int .i64 a0_0, .int .i64 a0_1, .int .i64 a0_2, .int .i64 a0_3, .string a0_4, .float .f64 bv0_5] 30 (0, 0)) (by (with_reducible repeat (first | refine blk_drewN ?_ _ | refine blk_drew ?_ | refine blk_alloc ?_ _)); exact BK174.out)) : gb174 ≠ gb175)); have n6_ := Aside0.mk ((by rw [hg]; exact Nat.ne_of_gt (blk_lt (g := gb174) (o := .cells #[.int .i64 a0_0, .int .i64 a0_1, .int .i64 a0_2, .int .i64 a0_3, .string a0_4, .float .f64 bv0_5] 30 (0, 0)) (by (with_reducible repeat (first | refine blk_drewN ?_ _ | refine blk_drew ?_ | refine blk_alloc ?_ _)); exact BK174.out)) : gb175 ≠ gb174)); clear BK174; clear HB; have BK174 := n0_; have HB := n1_; have BK175 := n2_; have GW175 := n3_; have GE175 := n4_; have NB174_175 := n5_; have NB175_174 := n6_; clear n0_ n1_ n2_ n3_ n4_ n5_ n6_; clear hb hbox hg))
    have n0_ := Aside0.mk (blk_drew BK174.out)
    have n1_ := Aside0.mk (blk_drew BK175.out)
    have n2_ := Aside0.mk (below_drew1 HB.out)
    clear BK174
    clear BK175
    clear HB
    have BK174 := n0_
    have BK175 := n1_
    have HB := n2_
    clear n0_ n1_ n2_
    refine start_ (n := 13) (S := fun w' => w'.cell? ⟨gb174, 0, none⟩ = some (.int .i64 a0_0) ∧ w'.cell? ⟨gb174, 1, none⟩ = some (.int .i64 a0_1) ∧ w'.cell? ⟨gb174, 2, none⟩ = some (.int .i64 a0_2) ∧ w'.cell? ⟨gb174, 3, none⟩ = some (.int .i64 a0_3) ∧ w'.cell? ⟨gb174, 4, none⟩ = some (.string a0_4) ∧ w'.cell? ⟨gb174, 5, none⟩ = some (.float .f64 bv0_5) ∧ w'.cell? ⟨gb175, 0, none⟩ = some (.int .i64 a1_0) ∧ w'.cell? ⟨gb175, 1, none⟩ = some (.int .i64 a1_1) ∧ w'.cell? ⟨gb175, 2, none⟩ = some (.int .i64 a1_2) ∧ w'.cell? ⟨gb175, 3, none⟩ = some (.int .i64 a1_3) ∧ w'.cell? ⟨gb175, 4, none⟩ = some (.string a1_4) ∧ w'.cell? ⟨gb175, 5, none⟩ = some (.float .f64 bv1_5)) (ds := []) #[false, false, false, false, false, false, false, false, false, false, false, false, false] (by kernel_rfl) rfl rfl ⟨(blk_cell BK174.out 0).trans rfl, (blk_cell BK174.out 1).trans rfl, (blk_cell BK174.out 2).trans rfl, (blk_cell BK174.out 3).trans rfl, (blk_cell BK174.out 4).trans rfl, (blk_cell BK174.out 5).trans rfl, (blk_cell BK175.out 0).trans rfl, (blk_cell BK175.out 1).trans rfl, (blk_cell BK175.out 2).trans rfl, (blk_cell BK175.out 3).trans rfl, (blk_cell BK175.out 4).trans rfl, (blk_cell BK175.out 5).trans rfl⟩ (fun hHeld => ?_); refine with_tabW bonsairef13_Alike.tab1 bonsairef13_Alike.bits1 (fun HT_ HW_ => ?_)
    generalize w14.drew = w15 at BK174 BK175 HB hHeld ⊢
    refine pure_ (i := 0) (N := some 5) (v := ?_) (a' := ?_) #[true, false, false, false, false, false, false, false, false, false, false, false, false] rfl rfl (any_of HT_.out (by kernel_rfl)) (fun _ _ _ h => h) (Or.inl ⟨by rfl, ?_⟩) ?_ ?_
    rotate_left
    · intro w'
      go_simp
      with_reducible rfl
    rotate_left
    · simp only [Act.put, List.setIfInBounds_toArray, List.set_cons_zero, List.set_cons_succ, i64_w, i32_w]
      rfl
    refine pure_ (i := 2) (N := some 7) (v := ?_) (a' := ?_) #[true, false, true, false, false, false, false, false, false, false, false, false, false] rfl rfl (any_of HT_.out (by kernel_rfl)) (fun _ _ _ h => h) (Or.inl ⟨by rfl, ?_⟩) ?_ ?_
    rotate_left
    · intro w'
      go_simp
      with_reducible rfl
    rotate_left
    · simp only [Act.put, List.setIfInBounds_toArray, List.set_cons_zero, List.set_cons_succ, i64_w, i32_w]
      rfl
    refine take_ (i := 1) (N := some 6) (v := ?_) (a' := ?_) #[true, true, true, false, false, false, false, false, false, false, false, false, false] rfl rfl (take_ofW HT_.out HW_.out (by kernel_rfl)) (fun _ _ _ h => h) (Or.inl ⟨by rfl, ?_⟩) hHeld ?_ ?_
    rotate_left
    · rintro w' ⟨s0, s1, s2, s3, s4, s5, s6, s7, s8, s9, s10, s11⟩
      go_simp
      with_reducible rfl
    rotate_left
    · simp only [Act.put, List.setIfInBounds_toArray, List.set_cons_zero, List.set_cons_succ, i64_w, i32_w]
      rfl
    refine take_ (i := 3) (N := some 8) (v := ?_) (a' := ?_) #[true, true, true, true, false, false, false, false, false, false, false, false, false] rfl rfl (take_ofW HT_.out HW_.out (by kernel_rfl)) (fun _ _ _ h => h) (Or.inl ⟨by rfl, ?_⟩) hHeld ?_ ?_
    rotate_left
    · rintro w' ⟨s0, s1, s2, s3, s4, s5, s6, s7, s8, s9, s10, s11⟩
      go_simp
      with_reducible rfl
    rotate_left
    · simp only [Act.put, List.setIfInBounds_toArray, List.set_cons_zero, List.set_cons_succ, i64_w, i32_w]
      rfl
    refine pure_ (i := 4) (N := some 9) (v := ?_) (a' := ?_) #[true, true, true, true, true, false, false, false, false, false, false, false, false] rfl rfl (any_of HT_.out (by kernel_rfl)) (fun _ _ _ h => h) (Or.inl ⟨by rfl, ?_⟩) ?_ ?_
    rotate_left
    · intro w'
      go_simp
      with_reducible rfl
    rotate_left
    · simp only [Act.put, List.setIfInBounds_toArray, List.set_cons_zero, List.set_cons_succ, i64_w, i32_w]
      rfl
    refine pure_ (i := 5) (N := some 10) (v := ?_) (a' := ?_) #[true, true, true, true, true, true, false, false, false, false, false, false, false] rfl rfl (any_of HT_.out (by kernel_rfl)) (fun _ _ _ h => h) (Or.inl ⟨by rfl, ?_⟩) ?_ ?_
    rotate_left
    · intro w'
      go_simp
      with_reducible rfl
    rotate_left
    · simp only [Act.put, List.setIfInBounds_toArray, List.set_cons_zero, List.set_cons_succ, i64_w, i32_w]
      rfl
    refine pure_ (i := 6) (N := some 11) (v := undef) (a' := ?_) #[true, true, true, true, true, true, true, false, false, false, false, false, false] rfl rfl (any_of HT_.out (by kernel_rfl)) (fun _ _ _ h => h) (Or.inr ⟨by rfl, rfl⟩) ?_ ?_
    rotate_left
    · simp only [Act.put, List.setIfInBounds_toArray, List.set_cons_zero, List.set_cons_succ, i64_w, i32_w]
      rfl
    refine pure_ (i := 7) (N := some 12) (v := undef) (a' := ?_) #[true, true, true, true, true, true, true, true, false, false, false, false, false] rfl rfl (any_of HT_.out (by kernel_rfl)) (fun _ _ _ h => h) (Or.inr ⟨by rfl, rfl⟩) ?_ ?_
    rotate_left
    · simp only [Act.put, List.setIfInBounds_toArray, List.set_cons_zero, List.set_cons_succ, i64_w, i32_w]
      rfl
    refine pure_ (i := 8) (N := some 13) (v := undef) (a' := ?_) #[true, true, true, true, true, true, true, true, true, false, false, false, false] rfl rfl (any_of HT_.out (by kernel_rfl)) (fun _ _ _ h => h) (Or.inr ⟨by rfl, rfl⟩) ?_ ?_
    rotate_left
    · simp only [Act.put, List.setIfInBounds_toArray, List.set_cons_zero, List.set_cons_succ, i64_w, i32_w]
      rfl
    refine pure_ (i := 9) (N := some 14) (v := undef) (a' := ?_) #[true, true, true, true, true, true, true, true, true, true, false, false, false] rfl rfl (any_of HT_.out (by kernel_rfl)) (fun _ _ _ h => h) (Or.inr ⟨by rfl, rfl⟩) ?_ ?_
    rotate_left
    · simp only [Act.put, List.setIfInBounds_toArray, List.set_cons_zero, List.set_cons_succ, i64_w, i32_w]
      rfl
    refine pure_ (i := 10) (N := some 15) (v := undef) (a' := ?_) #[true, true, true, true, true, true, true, true, true, true, true, false, false] rfl rfl (any_of HT_.out (by kernel_rfl)) (fun _ _ _ h => h) (Or.inr ⟨by rfl, rfl⟩) ?_ ?_
    rotate_left
    · simp only [Act.put, List.setIfInBounds_toArray, List.set_cons_zero, List.set_cons_succ, i64_w, i32_w]
      rfl
    refine pure_ (i := 11) (N := some 16) (v := ?_) (a' := ?_) #[true, true, true, true, true, true, true, true, true, true, true, true, false] rfl rfl (any_of HT_.out (by kernel_rfl)) (fun _ _ _ h => h) (Or.inl ⟨by rfl, ?_⟩) ?_ ?_
    rotate_left
    · intro w'
      go_simp
      with_reducible rfl
    rotate_left
    · simp only [Act.put, List.setIfInBounds_toArray, List.set_cons_zero, List.set_cons_succ, i64_w, i32_w]
      rfl
    refine pure_ (i := 12) (N := some 4) (v := ?_) (a' := ?_) #[true, true, true, true, true, true, true, true, true, true, true, true, true] rfl rfl (any_of HT_.out (by kernel_rfl)) (fun _ _ _ h => h) (Or.inl ⟨by rfl, ?_⟩) ?_ ?_
    rotate_left
    · intro w'
      go_simp
      with_reducible rfl
    rotate_left
    · simp only [Act.put, List.setIfInBounds_toArray, List.set_cons_zero, List.set_cons_succ, i64_w, i32_w]
      rfl
    refine done_ (done_of HT_.out (by kernel_rfl)) ?_
    try go_wp2
    go_ret
    exact ⟨by first | rfl | (simp [errW_none, errW_some] <;> rfl) | (simp [*, errW_none, errW_some] <;> rfl), by repeat (first | (with_reducible first | exact HB.out | apply below_alloc | apply pw_below_drewN | apply below_drew1 | refine below_set ?_ GE174.out | refine below_set ?_ GE175.out) | exact HB.out)⟩
end Go.Proofs.Ytfgnjndfnijjoaa.Print
end
section
namespace Go.Proofs.Ytfgnjndfnijjoaa.Print
open Go.RowKit Go.Proofs.YtfgnjndfnijjoaaW.PrintWords Go.Proofs.YtfgnjndfnijjoaaW.PrintLast Go.Proofs.YtfgnjndfnijjoaaW.PrintMore
attribute [local go_sem] max2_int min2_int max_two min_two max_three min_three max_four min_four
attribute [local go_sem] run_store_float
set_option linter.unusedVariables false
set_option linter.unusedSimpArgs false
def bonsairef13_Same.l0 : Nat → List (S30) → List (S30) → Int → Option (Bool)
  | 0, _, _, _ => none
  | k + 1, x0, x1, x5 => if x5 < (x0.length : Int) then (if 0 ≤ x5 then (if x5 < (x1.length : Int) then ((bonsairef13_Alike.f ((rd_T30 x0 x5).f0.f0) ((rd_T30 x0 x5).f0.f1) ((rd_T30 x0 x5).f1) ((rd_T30 x0 x5).f2) ((rd_T30 x0 x5).f3) ((rd_T30 x0 x5).f4) ((rd_T30 x1 x5).f0.f0) ((rd_T30 x1 x5).f0.f1) ((rd_T30 x1 x5).f1) ((rd_T30 x1 x5).f2) ((rd_T30 x1 x5).f3) ((rd_T30 x1 x5).f4)).bind fun t189 => (if t189 = true then (bonsairef13_Same.l0 k x0 x1 (wrap64 (x5 + 1))) else (some false))) else (none)) else (none)) else (some true)
def bonsairef13_Same.f (k : Nat) (l0 : List (S30)) (l1 : List (S30)) : Option (Bool) := if (l0.length : Int) = (l1.length : Int) then (bonsairef13_Same.l0 k l0 l1 0) else (some false)
theorem bonsairef13_Same.mono_l : ∀ k, (∀ y0 y1 y2, LeO (bonsairef13_Same.l0 k y0 y1 y2) (bonsairef13_Same.l0 (k + 1) y0 y1 y2))
  | 0 => fun _ _ _ r h => by simp [bonsairef13_Same.l0] at h
  | k + 1 => by
    have ih0 := bonsairef13_Same.mono_l k
    · intro y0 y1 y2
      unfold bonsairef13_Same.l0
      repeat' first
      | (with_reducible exact ih0 _ _ _)
      | (with_reducible exact LeO.refl _)
      | (with_reducible exact LeO.none _)
      | (with_reducible refine LeO.ite ?_ ?_)
      | (with_reducible refine LeO.bind ?_ (fun _ => ?_))
      | exact ih0 _ _ _
      | exact LeO.none _
      | refine LeO.ite ?_ ?_
      | refine LeO.bind ?_ (fun _ => ?_)
theorem bonsairef13_Same.mono : ∀ a0 a1 k, LeO (bonsairef13_Same.f k a0 a1) (bonsairef13_Same.f (k + 1) a0 a1) := by
  intro a0 a1 k
  have ih0 := bonsairef13_Same.mono_l k
  unfold bonsairef13_Same.f
  repeat' first
      | (with_reducible exact ih0 _ _ _)
      | (with_reducible exact LeO.refl _)
      | (with_reducible exact LeO.none _)
      | (with_reducible refine LeO.ite ?_ ?_)
      | (with_reducible refine LeO.bind ?_ (fun _ => ?_))
      | exact ih0 _ _ _
      | exact LeO.none _
      | refine LeO.ite ?_ ?_
      | refine LeO.bind ?_ (fun _ => ?_)
def bonsairef13_Same.T6 : Bool × List (List Nat × List Nat) := (true, [([], []), ([], []), ([0, 1], [0, 1]), ([2], [2]), ([], []), ([], []), ([4, 5], [4, 5]), ([6], [6]), ([3, 7], [3, 7]), ([8], [8])])
def bonsairef13_Same.B6 : List Nat := [0, 0, 3, 7, 0, 0, 48, 112, 255, 511]
theorem bonsairef13_Same.tab6 : rtab .any (opsOf Try.f15 6) = bonsairef13_Same.T6 := by kernel_rfl
theorem bonsairef13_Same.bits6 : waitsOk bonsairef13_Same.T6.2 bonsairef13_Same.B6 = true := by kernel_rfl
set_option maxHeartbeats 8000000 in
set_option maxRecDepth 100000 in
theorem bonsairef13_Same.calls (k : Nat) (A0 : Option Addr) (c0 : Nat) (l0 : List (S30)) (A1 : Option Addr) (c1 : Nat) (l1 : List (S30)) (r : Bool) (w : World) (hr0 : Kd.C k30 w A0 l0.length l0) (hc0 : l0.length ≤ c0) (hr1 : Kd.C k30 w A1 l1.length l1) (hc1 : l1.length ≤ c1) (h : bonsairef13_Same.f k l0 l1 = some r) :
    Calls Try.prog 15 #[.slice A0 l0.length c0, .slice A1 l1.length c1] w fun e w' => e = .returned (.bool r) ∧ Below w.heap.size w w' := by
  have hu30 := Try.underlying30
  have HR0 := Aside0.mk hr0
  have HC0 := Aside0.mk hc0
  clear hr0 hc0
  have HR1 := Aside0.mk hr1
  have HC1 := Aside0.mk hc1
  clear hr1 hc1
  have HB := Aside0.mk (Below.refl w.heap.size w)
  have H : (if (l0.length : Int) = (l1.length : Int) then (bonsairef13_Same.l0 k l0 l1 0) else (some false)) = some r := h
  clear h
  by_cases c3 : (l0.length : Int) = (l1.length : Int)
  · rw [if_pos c3] at H
    have c3b0 : ((l0.length : Int) == (l1.length : Int)) = true := beq_iff_eq.mpr c3
    have c3b1 : ((l0.length : Int) != (l1.length : Int)) = false := bne_eq_false_iff_eq.mpr c3
    have c3b2 : (l0.length == l1.length) = true := by first | simpa using c3 | (simp at c3 ⊢; omega)
    clear c3
    have H' := Aside0.mk H
    clear H
    go_enter Try.func15, Try.ntmps15
    go_wp2
    go_loopg [5] k (fun kq v5 w' => ∃ (x5_1 : Int), v5 = .int .i64 x5_1 ∧ Aside0 (bonsairef13_Same.l0 kq l0 l1 x5_1 = some r) ∧ Aside0 (kq ≤ k) ∧ Aside0 (Below w.heap.size w w'))
    case atStart => exact ⟨(0), (by first | rfl | (simp; done) | (simp [*]; done)), H', ⟨Nat.le_refl _⟩, ⟨by repeat (first | (with_reducible first | exact HB.out | apply below_alloc | apply pw_below_drewN | apply below_drew1) | exact HB.out)⟩⟩
    case round =>
      clear H'
      try clear c1
      try clear p2
      try clear c3
      try clear c3b0
      try clear c3b1
      try clear c3b2
      obtain ⟨x5_1, rfl, HA, HK1, HB⟩ := hrel
      cases gk with
      | zero => exact absurd HA.out (by simp [bonsairef13_Same.l0])
      | succ k1 =>
        have H := HA.out
        clear HA
        simp only [bonsairef13_Same.l0] at H
        by_cases c4 : x5_1 < (l0.length : Int)
        · rw [if_pos c4] at H
          have c4b0 : decide (x5_1 < (l0.length : Int)) = true := decide_eq_true c4
          clear c4
          by_cases c5 : 0 ≤ x5_1
          · rw [if_pos c5] at H
            have c5b0 : decide (0 ≤ x5_1) = true := decide_eq_true c5
            clear c5
            by_cases c6 : x5_1 < (l1.length : Int)
            · rw [if_pos c6] at H
              have c6b0 : decide (x5_1 < (l1.length : Int)) = true := decide_eq_true c6
              clear c6
              replace H := Option.bind_eq_some_iff.mp H
              obtain ⟨t189, A70, H⟩ := H
              replace H : (if t189 = true then (bonsairef13_Same.l0 k1 l0 l1 (wrap64 (x5_1 + 1))) else (some false)) = some r := H
              have A7 := Aside0.mk A70
              clear A70
              by_cases c8 : t189 = true
              · subst c8
                have H1 : (bonsairef13_Same.l0 k1 l0 l1 (wrap64 (x5_1 + 1))) = some r := by rw [if_pos rfl] at H; exact H
                clear H
                have H := H1
                clear H1
                have H' := Aside0.mk H
                clear H
                try go_wp2
                have n0_ := Aside0.mk (below_drew1 HB.out)
                clear HB
                have HB := n0_
                clear n0_
                have p187 : 0 ≤ (x5_1 : Int) := of_decide_eq_true (by first | (with_reducible assumption) | assumption)
                have q187 : x5_1 < (l0.length : Int) := of_decide_eq_true (by first | (with_reducible assumption) | assumption)
                obtain ⟨ad187, bv187_5, e187, hx187_0, hx187_1, hx187_2, hx187_3, hx187_4, hx187_5, bq187_5⟩ := at_T30 HR0.out x5_1 p187 q187
                have hw187_5 := hx187_5
                have hw187_4 := hx187_4
                have hw187_3 := hx187_3
                have hw187_2 := hx187_2
                have hw187_1 := hx187_1
                have hw187_0 := hx187_0
                cases e187
                replace hx187_0 := (HB.out.cell (World.block_lt_of_cell? w _ hx187_0)).trans hx187_0
                replace hx187_1 := (HB.out.cell (World.block_lt_of_cell? w _ hx187_1)).trans hx187_1
                replace hx187_2 := (HB.out.cell (World.block_lt_of_cell? w _ hx187_2)).trans hx187_2
                replace hx187_3 := (HB.out.cell (World.block_lt_of_cell? w _ hx187_3)).trans hx187_3
                replace hx187_4 := (HB.out.cell (World.block_lt_of_cell? w _ hx187_4)).trans hx187_4
                replace hx187_5 := (HB.out.cell (World.block_lt_of_cell? w _ hx187_5)).trans hx187_5
                replace p187 := eq_true p187
                replace q187 := eq_true q187
                have p188 : 0 ≤ (x5_1 : Int) := of_decide_eq_true (by first | (with_reducible assumption) | assumption)
                have q188 : x5_1 < (l1.length : Int) := of_decide_eq_true (by first | (with_reducible assumption) | assumption)
                obtain ⟨ad188, bv188_5, e188, hx188_0, hx188_1, hx188_2, hx188_3, hx188_4, hx188_5, bq188_5⟩ := at_T30 HR1.out x5_1 p188 q188
                have hw188_5 := hx188_5
                have hw188_4 := hx188_4
                have hw188_3 := hx188_3
                have hw188_2 := hx188_2
                have hw188_1 := hx188_1
                have hw188_0 := hx188_0
                cases e188
                replace hx188_0 := (HB.out.cell (World.block_lt_of_cell? w _ hx188_0)).trans hx188_0
                replace hx188_1 := (HB.out.cell (World.block_lt_of_cell? w _ hx188_1)).trans hx188_1
                replace hx188_2 := (HB.out.cell (World.block_lt_of_cell? w _ hx188_2)).trans hx188_2
                replace hx188_3 := (HB.out.cell (World.block_lt_of_cell? w _ hx188_3)).trans hx188_3
                replace hx188_4 := (HB.out.cell (World.block_lt_of_cell? w _ hx188_4)).trans hx188_4
                replace hx188_5 := (HB.out.cell (World.block_lt_of_cell? w _ hx188_5)).trans hx188_5
                replace p188 := eq_true p188
                replace q188 := eq_true q188
                refine start_ (n := 10) (S := fun w' => w'.cell? (ad187.add ((x5_1).toNat * 6)) = some (.int .i64 ((rd_T30 l0 x5_1).f0.f0)) ∧ w'.cell? ⟨(ad187.add ((x5_1).toNat * 6)).block, (ad187.add ((x5_1).toNat * 6)).off + 1, none⟩ = some (.int .i64 ((rd_T30 l0 x5_1).f0.f1)) ∧ w'.cell? ⟨(ad187.add ((x5_1).toNat * 6)).block, (ad187.add ((x5_1).toNat * 6)).off + 2, none⟩ = some (.int .i64 ((rd_T30 l0 x5_1).f1)) ∧ w'.cell? ⟨(ad187.add ((x5_1).toNat * 6)).block, (ad187.add ((x5_1).toNat * 6)).off + 3, none⟩ = some (.int .i64 ((rd_T30 l0 x5_1).f2)) ∧ w'.cell? ⟨(ad187.add ((x5_1).toNat * 6)).block, (ad187.add ((x5_1).toNat * 6)).off + 4, none⟩ = some (.string ((rd_T30 l0 x5_1).f3)) ∧ w'.cell? ⟨(ad187.add ((x5_1).toNat * 6)).block, (ad187.add ((x5_1).toNat * 6)).off + 5, none⟩ = some (.float .f64 bv187_5) ∧ w'.cell? (ad188.add ((x5_1).toNat * 6)) = some (.int .i64 ((rd_T30 l1 x5_1).f0.f0)) ∧ w'.cell? ⟨(ad188.add ((x5_1).toNat * 6)).block, (ad188.add ((x5_1).toNat * 6)).off + 1, none⟩ = some (.int .i64 ((rd_T30 l1 x5_1).f0.f1)) ∧ w'.cell? ⟨(ad188.add ((x5_1).toNat * 6)).block, (ad188.add ((x5_1).toNat * 6)).off + 2, none⟩ = some (.int .i64 ((rd_T30 l1 x5_1).f1)) ∧ w'.cell? ⟨(ad188.add ((x5_1).toNat * 6)).block, (ad188.add ((x5_1).toNat * 6)).off + 3, none⟩ = some (.int .i64 ((rd_T30 l1 x5_1).f2)) ∧ w'.cell? ⟨(ad188.add ((x5_1).toNat * 6)).block, (ad188.add ((x5_1).toNat * 6)).off + 4, none⟩ = some (.string ((rd_T30 l1 x5_1).f3)) ∧ w'.cell? ⟨(ad188.add ((x5_1).toNat * 6)).block, (ad188.add ((x5_1).toNat * 6)).off + 5, none⟩ = some (.float .f64 bv188_5)) (ds := []) #[false, false, false, false, false, false, false, false, false, false] (by kernel_rfl) rfl rfl ⟨((HB.out.cell (World.block_lt_of_cell? w _ hw187_0)).trans hw187_0), ((HB.out.cell (World.block_lt_of_cell? w _ hw187_1)).trans hw187_1), ((HB.out.cell (World.block_lt_of_cell? w _ hw187_2)).trans hw187_2), ((HB.out.cell (World.block_lt_of_cell? w _ hw187_3)).trans hw187_3), ((HB.out.cell (World.block_lt_of_cell? w _ hw187_4)).trans hw187_4), ((HB.out.cell (World.block_lt_of_cell? w _ hw187_5)).trans hw187_5), ((HB.out.cell (World.block_lt_of_cell? w _ hw188_0)).trans hw188_0), ((HB.out.cell (World.block_lt_of_cell? w _ hw188_1)).trans hw188_1), ((HB.out.cell (World.block_lt_of_cell? w _ hw188_2)).trans hw188_2), ((HB.out.cell (World.block_lt_of_cell? w _ hw188_3)).trans hw188_3), ((HB.out.cell (World.block_lt_of_cell? w _ hw188_4)).trans hw188_4), ((HB.out.cell (World.block_lt_of_cell? w _ hw188_5)).trans hw188_5)⟩ (fun hHeld => ?_); refine with_tabW bonsairef13_Same.tab6 bonsairef13_Same.bits6 (fun HT_ HW_ => ?_)
                generalize wr.drew = w9 at HB hx187_0 hx187_1 hx187_2 hx187_3 hx187_4 hx187_5 hx188_0 hx188_1 hx188_2 hx188_3 hx188_4 hx188_5 hHeld ⊢
                refine pure_ (i := 0) (N := some 17) (v := ?_) (a' := ?_) #[true, false, false, false, false, false, false, false, false, false] rfl rfl (any_of HT_.out (by kernel_rfl)) (fun _ _ _ h => h) (Or.inl ⟨by rfl, ?_⟩) ?_ ?_
                rotate_left
                · intro w'
                  go_simp
                  with_reducible rfl
                rotate_left
                · simp only [Act.put, List.setIfInBounds_toArray, List.set_cons_zero, List.set_cons_succ, i64_w, i32_w]
                  rfl
                refine pure_ (i := 1) (N := some 18) (v := ?_) (a' := ?_) #[true, true, false, false, false, false, false, false, false, false] rfl rfl (any_of HT_.out (by kernel_rfl)) (fun _ _ _ h => h) (Or.inl ⟨by rfl, ?_⟩) ?_ ?_
                rotate_left
                · intro w'
                  go_simp
                  with_reducible rfl
                rotate_left
                · simp only [Act.put, List.setIfInBounds_toArray, List.set_cons_zero, List.set_cons_succ, i64_w, i32_w]
                  rfl
                refine pure_ (i := 2) (N := some 19) (v := ?_) (a' := ?_) #[true, true, true, false, false, false, false, false, false, false] rfl rfl (any_of HT_.out (by kernel_rfl)) (fun _ _ _ h => h) (Or.inl ⟨by rfl, ?_⟩) ?_ ?_
                rotate_left
                · intro w'
                  go_simp
                  with_reducible rfl
                rotate_left
                · simp only [Act.put, List.setIfInBounds_toArray, List.set_cons_zero, List.set_cons_succ, i64_w, i32_w]
                  rfl
                refine pure_ (i := 4) (N := some 21) (v := ?_) (a' := ?_) #[true, true, true, false, true, false, false, false, false, false] rfl rfl (any_of HT_.out (by kernel_rfl)) (fun _ _ _ h => h) (Or.inl ⟨by rfl, ?_⟩) ?_ ?_
                rotate_left
                · intro w'
                  go_simp
                  with_reducible rfl
                rotate_left
                · simp only [Act.put, List.setIfInBounds_toArray, List.set_cons_zero, List.set_cons_succ, i64_w, i32_w]
                  rfl
                refine pure_ (i := 5) (N := some 22) (v := ?_) (a' := ?_) #[true, true, true, false, true, true, false, false, false, false] rfl rfl (any_of HT_.out (by kernel_rfl)) (fun _ _ _ h => h) (Or.inl ⟨by rfl, ?_⟩) ?_ ?_
                rotate_left
                · intro w'
                  go_simp
                  with_reducible rfl
                rotate_left
                · simp only [Act.put, List.setIfInBounds_toArray, List.set_cons_zero, List.set_cons_succ, i64_w, i32_w]
                  rfl
                refine pure_ (i := 6) (N := some 23) (v := ?_) (a' := ?_) #[true, true, true, false, true, true, true, false, false, false] rfl rfl (any_of HT_.out (by kernel_rfl)) (fun _ _ _ h => h) (Or.inl ⟨by rfl, ?_⟩) ?_ ?_
                rotate_left
                · intro w'
                  go_simp
                  with_reducible rfl
                rotate_left
                · simp only [Act.put, List.setIfInBounds_toArray, List.set_cons_zero, List.set_cons_succ, i64_w, i32_w]
                  rfl
                refine take_ (i := 3) (N := some 20) (v := ?_) (a' := ?_) #[true, true, true, true, true, true, true, false, false, false] rfl rfl (take_ofW HT_.out HW_.out (by kernel_rfl)) (fun _ _ _ h => h) (Or.inl ⟨by rfl, ?_⟩) hHeld ?_ ?_
                rotate_left
                · rintro w' ⟨s0, s1, s2, s3, s4, s5, s6, s7, s8, s9, s10, s11⟩
                  go_simp
                  with_reducible rfl
                rotate_left
                · simp only [Act.put, List.setIfInBounds_toArray, List.set_cons_zero, List.set_cons_succ, i64_w, i32_w]
                  rfl
                refine take_ (i := 7) (N := some 24) (v := ?_) (a' := ?_) #[true, true, true, true, true, true, true, true, false, false] rfl rfl (take_ofW HT_.out HW_.out (by kernel_rfl)) (fun _ _ _ h => h) (Or.inl ⟨by rfl, ?_⟩) hHeld ?_ ?_
                rotate_left
                · rintro w' ⟨s0, s1, s2, s3, s4, s5, s6, s7, s8, s9, s10, s11⟩
                  go_simp
                  with_reducible rfl
                rotate_left
                · simp only [Act.put, List.setIfInBounds_toArray, List.set_cons_zero, List.set_cons_succ, i64_w, i32_w]
                  rfl
                refine one_ (i := 8) (N := some 25) #[true, true, true, true, true, true, true, true, true, false] rfl rfl (one_of HT_.out (by kernel_rfl)) (by decide) (fun K hK => ?_)
                refine goes_ Try.func44 (by kernel_rfl) rfl #[.agg #[.int .i64 ((rd_T30 l0 x5_1).f0.f0), .int .i64 ((rd_T30 l0 x5_1).f0.f1), .int .i64 ((rd_T30 l0 x5_1).f1), .int .i64 ((rd_T30 l0 x5_1).f2), .string ((rd_T30 l0 x5_1).f3), .float .f64 bv187_5], .agg #[.int .i64 ((rd_T30 l1 x5_1).f0.f0), .int .i64 ((rd_T30 l1 x5_1).f0.f1), .int .i64 ((rd_T30 l1 x5_1).f1), .int .i64 ((rd_T30 l1 x5_1).f2), .string ((rd_T30 l1 x5_1).f3), .float .f64 bv188_5]] (by rfl) rfl rfl (by (try simp only [List.map_toArray, List.map_cons, List.map_nil]); first | done | rfl | (simp only [List.length_drop, List.length_take]; rfl)) ?_
                with_reducible refine (bonsairef13_Alike.calls ((rd_T30 l0 x5_1).f0.f0) ((rd_T30 l0 x5_1).f0.f1) ((rd_T30 l0 x5_1).f1) ((rd_T30 l0 x5_1).f2) ((rd_T30 l0 x5_1).f3) _ ((rd_T30 l0 x5_1).f4) ((rd_T30 l1 x5_1).f0.f0) ((rd_T30 l1 x5_1).f0.f1) ((rd_T30 l1 x5_1).f1) ((rd_T30 l1 x5_1).f2) ((rd_T30 l1 x5_1).f3) _ ((rd_T30 l1 x5_1).f4) true _ ?side1 ?side2 A7.out).mono ?_
                (case side1 => exact (by first | assumption | exact FB_lit _ _ rfl | exact FB_int _ | simpa using (by assumption)))
                (case side2 => exact (by first | assumption | exact FB_lit _ _ rfl | exact FB_int _ | simpa using (by assumption)))
                rintro e w10 ⟨rfl, hb⟩
                refine ⟨_, rfl, ?_⟩
                have n0_ := Aside0.mk (below_step (by repeat (first | (with_reducible first | exact HB.out | apply below_alloc | apply pw_below_drewN | apply below_drew1) | exact HB.out)) hb)
                clear HB
                have HB := n0_
                clear n0_
                (try clear hb)
                (try clear hb2)
                (try clear hk)
                (try clear hi)
                refine hK.out _ _ ⟨((HB.out.cell (World.block_lt_of_cell? w _ hw187_0)).trans hw187_0), ((HB.out.cell (World.block_lt_of_cell? w _ hw187_1)).trans hw187_1), ((HB.out.cell (World.block_lt_of_cell? w _ hw187_2)).trans hw187_2), ((HB.out.cell (World.block_lt_of_cell? w _ hw187_3)).trans hw187_3), ((HB.out.cell (World.block_lt_of_cell? w _ hw187_4)).trans hw187_4), ((HB.out.cell (World.block_lt_of_cell? w _ hw187_5)).trans hw187_5), ((HB.out.cell (World.block_lt_of_cell? w _ hw188_0)).trans hw188_0), ((HB.out.cell (World.block_lt_of_cell? w _ hw188_1)).trans hw188_1), ((HB.out.cell (World.block_lt_of_cell? w _ hw188_2)).trans hw188_2), ((HB.out.cell (World.block_lt_of_cell? w _ hw188_3)).trans hw188_3), ((HB.out.cell (World.block_lt_of_cell? w _ hw188_4)).trans hw188_4), ((HB.out.cell (World.block_lt_of_cell? w _ hw188_5)).trans hw188_5)⟩ (fun hHeld => ?_)
                clear hK K
                refine norm_ (a' := ?_) ?_ ?_
                rotate_left
                · show Act.put _ (some 25) _ = _
                  simp only [Act.put, List.setIfInBounds_toArray, List.set_cons_zero, List.set_cons_succ, i64_w, i32_w]
                  rfl
                refine pure_ (i := 9) (N := some 26) (v := ?_) (a' := ?_) #[true, true, true, true, true, true, true, true, true, true] rfl rfl (any_of HT_.out (by kernel_rfl)) (fun _ _ _ h => h) (Or.inl ⟨by rfl, ?_⟩) ?_ ?_
                rotate_left
                · intro w'
                  go_simp
                  with_reducible rfl
                rotate_left
                · simp only [Act.put, List.setIfInBounds_toArray, List.set_cons_zero, List.set_cons_succ, i64_w, i32_w]
                  rfl
                refine done_ (done_of HT_.out (by kernel_rfl)) ?_
                try go_wp2
                go_roundg k1
                case measure => have := HK1.out; omega
                case rel => exact ⟨(wrap64 (x5_1 + 1)), (by first | rfl | (simp; done) | (simp [*]; done)), H', ⟨by have := HK1.out; omega⟩, ⟨by repeat (first | (with_reducible first | exact HB.out | apply below_alloc | apply pw_below_drewN | apply below_drew1) | exact HB.out)⟩⟩
              · replace c8 := Bool.eq_false_iff.mpr c8
                subst c8
                have H1 : (some false) = some r := by rw [if_neg (show ¬ (false = true) by decide)] at H; exact H
                clear H
                have H := H1
                clear H1
                obtain rfl := Option.some.inj H
                try go_wp2
                have n0_ := Aside0.mk (below_drew1 HB.out)
                clear HB
                have HB := n0_
                clear n0_
                have p187 : 0 ≤ (x5_1 : Int) := of_decide_eq_true (by first | (with_reducible assumption) | assumption)
                have q187 : x5_1 < (l0.length : Int) := of_decide_eq_true (by first | (with_reducible assumption) | assumption)
                obtain ⟨ad187, bv187_5, e187, hx187_0, hx187_1, hx187_2, hx187_3, hx187_4, hx187_5, bq187_5⟩ := at_T30 HR0.out x5_1 p187 q187
                have hw187_5 := hx187_5
                have hw187_4 := hx187_4
                have hw187_3 := hx187_3
                have hw187_2 := hx187_2
                have hw187_1 := hx187_1
                have hw187_0 := hx187_0
                cases e187
                replace hx187_0 := (HB.out.cell (World.block_lt_of_cell? w _ hx187_0)).trans hx187_0
                replace hx187_1 := (HB.out.cell (World.block_lt_of_cell? w _ hx187_1)).trans hx187_1
                replace hx187_2 := (HB.out.cell (World.block_lt_of_cell? w _ hx187_2)).trans hx187_2
                replace hx187_3 := (HB.out.cell (World.block_lt_of_cell? w _ hx187_3)).trans hx187_3
                replace hx187_4 := (HB.out.cell (World.block_lt_of_cell? w _ hx187_4)).trans hx187_4
                replace hx187_5 := (HB.out.cell (World.block_lt_of_cell? w _ hx187_5)).trans hx187_5
                replace p187 := eq_true p187
                replace q187 := eq_true q187
                have p188 : 0 ≤ (x5_1 : Int) := of_decide_eq_true (by first | (with_reducible assumption) | assumption)
                have q188 : x5_1 < (l1.length : Int) := of_decide_eq_true (by first | (with_reducible assumption) | assumption)
                obtain ⟨ad188, bv188_5, e188, hx188_0, hx188_1, hx188_2, hx188_3, hx188_4, hx188_5, bq188_5⟩ := at_T30 HR1.out x5_1 p188 q188
                have hw188_5 := hx188_5
                have hw188_4 := hx188_4
                have hw188_3 := hx188_3
                have hw188_2 := hx188_2
                have hw188_1 := hx188_1
                have hw188_0 := hx188_0
                cases e188
                replace hx188_0 := (HB.out.cell (World.block_lt_of_cell? w _ hx188_0)).trans hx188_0
                replace hx188_1 := (HB.out.cell (World.block_lt_of_cell? w _ hx188_1)).trans hx188_1
                replace hx188_2 := (HB.out.cell (World.block_lt_of_cell? w _ hx188_2)).trans hx188_2
                replace hx188_3 := (HB.out.cell (World.block_lt_of_cell? w _ hx188_3)).trans hx188_3
                replace hx188_4 := (HB.out.cell (World.block_lt_of_cell? w _ hx188_4)).trans hx188_4
                replace hx188_5 := (HB.out.cell (World.block_lt_of_cell? w _ hx188_5)).trans hx188_5
                replace p188 := eq_true p188
                replace q188 := eq_true q188
                refine start_ (n := 10) (S := fun w' => w'.cell? (ad187.add ((x5_1).toNat * 6)) = some (.int .i64 ((rd_T30 l0 x5_1).f0.f0)) ∧ w'.cell? ⟨(ad187.add ((x5_1).toNat * 6)).block, (ad187.add ((x5_1).toNat * 6)).off + 1, none⟩ = some (.int .i64 ((rd_T30 l0 x5_1).f0.f1)) ∧ w'.cell? ⟨(ad187.add ((x5_1).toNat * 6)).block, (ad187.add ((x5_1).toNat * 6)).off + 2, none⟩ = some (.int .i64 ((rd_T30 l0 x5_1).f1)) ∧ w'.cell? ⟨(ad187.add ((x5_1).toNat * 6)).block, (ad187.add ((x5_1).toNat * 6)).off + 3, none⟩ = some (.int .i64 ((rd_T30 l0 x5_1).f2)) ∧ w'.cell? ⟨(ad187.add ((x5_1).toNat * 6)).block, (ad187.add ((x5_1).toNat * 6)).off + 4, none⟩ = some (.string ((rd_T30 l0 x5_1).f3)) ∧ w'.cell? ⟨(ad187.add ((x5_1).toNat * 6)).block, (ad187.add ((x5_1).toNat * 6)).off + 5, none⟩ = some (.float .f64 bv187_5) ∧ w'.cell? (ad188.add ((x5_1).toNat * 6)) = some (.int .i64 ((rd_T30 l1 x5_1).f0.f0)) ∧ w'.cell? ⟨(ad188.add ((x5_1).toNat * 6)).block, (ad188.add ((x5_1).toNat * 6)).off + 1, none⟩ = some (.int .i64 ((rd_T30 l1 x5_1).f0.f1)) ∧ w'.cell? ⟨(ad188.add ((x5_1).toNat * 6)).block, (ad188.add ((x5_1).toNat * 6)).off + 2, none⟩ = some (.int .i64 ((rd_T30 l1 x5_1).f1)) ∧ w'.cell? ⟨(ad188.add ((x5_1).toNat * 6)).block, (ad188.add ((x5_1).toNat * 6)).off + 3, none⟩ = some (.int .i64 ((rd_T30 l1 x5_1).f2)) ∧ w'.cell? ⟨(ad188.add ((x5_1).toNat * 6)).block, (ad188.add ((x5_1).toNat * 6)).off + 4, none⟩ = some (.string ((rd_T30 l1 x5_1).f3)) ∧ w'.cell? ⟨(ad188.add ((x5_1).toNat * 6)).block, (ad188.add ((x5_1).toNat * 6)).off + 5, none⟩ = some (.float .f64 bv188_5)) (ds := []) #[false, false, false, false, false, false, false, false, false, false] (by kernel_rfl) rfl rfl ⟨((HB.out.cell (World.block_lt_of_cell? w _ hw187_0)).trans hw187_0), ((HB.out.cell (World.block_lt_of_cell? w _ hw187_1)).trans hw187_1), ((HB.out.cell (World.block_lt_of_cell? w _ hw187_2)).trans hw187_2), ((HB.out.cell (World.block_lt_of_cell? w _ hw187_3)).trans hw187_3), ((HB.out.cell (World.block_lt_of_cell? w _ hw187_4)).trans hw187_4), ((HB.out.cell (World.block_lt_of_cell? w _ hw187_5)).trans hw187_5), ((HB.out.cell (World.block_lt_of_cell? w _ hw188_0)).trans hw188_0), ((HB.out.cell (World.block_lt_of_cell? w _ hw188_1)).trans hw188_1), ((HB.out.cell (World.block_lt_of_cell? w _ hw188_2)).trans hw188_2), ((HB.out.cell (World.block_lt_of_cell? w _ hw188_3)).trans hw188_3), ((HB.out.cell (World.block_lt_of_cell? w _ hw188_4)).trans hw188_4), ((HB.out.cell (World.block_lt_of_cell? w _ hw188_5)).trans hw188_5)⟩ (fun hHeld => ?_); refine with_tabW bonsairef13_Same.tab6 bonsairef13_Same.bits6 (fun HT_ HW_ => ?_)
                generalize wr.drew = w11 at HB hx187_0 hx187_1 hx187_2 hx187_3 hx187_4 hx187_5 hx188_0 hx188_1 hx188_2 hx188_3 hx188_4 hx188_5 hHeld ⊢
                refine pure_ (i := 0) (N := some 17) (v := ?_) (a' := ?_) #[true, false, false, false, false, false, false, false, false, false] rfl rfl (any_of HT_.out (by kernel_rfl)) (fun _ _ _ h => h) (Or.inl ⟨by rfl, ?_⟩) ?_ ?_
                rotate_left
                · intro w'
                  go_simp
                  with_reducible rfl
                rotate_left
                · simp only [Act.put, List.setIfInBounds_toArray, List.set_cons_zero, List.set_cons_succ, i64_w, i32_w]
                  rfl
                refine pure_ (i := 1) (N := some 18) (v := ?_) (a' := ?_) #[true, true, false, false, false, false, false, false, false, false] rfl rfl (any_of HT_.out (by kernel_rfl)) (fun _ _ _ h => h) (Or.inl ⟨by rfl, ?_⟩) ?_ ?_
                rotate_left
                · intro w'
                  go_simp
                  with_reducible rfl
                rotate_left
                · simp only [Act.put, List.setIfInBounds_toArray, List.set_cons_zero, List.set_cons_succ, i64_w, i32_w]
                  rfl
                refine pure_ (i := 2) (N := some 19) (v := ?_) (a' := ?_) #[true, true, true, false, false, false, false, false, false, false] rfl rfl (any_of HT_.out (by kernel_rfl)) (fun _ _ _ h => h) (Or.inl ⟨by rfl, ?_⟩) ?_ ?_
                rotate_left
                · intro w'
                  go_simp
                  with_reducible rfl
                rotate_left
                · simp only [Act.put, List.setIfInBounds_toArray, List.set_cons_zero, List.set_cons_succ, i64_w, i32_w]
                  rfl
                refine pure_ (i := 4) (N := some 21) (v := ?_) (a' := ?_) #[true, true, true, false, true, false, false, false, false, false] rfl rfl (any_of HT_.out (by kernel_rfl)) (fun _ _ _ h => h) (Or.inl ⟨by rfl, ?_⟩) ?_ ?_
                rotate_left
                · intro w'
                  go_simp
                  with_reducible rfl
                rotate_left
                · simp only [Act.put, List.setIfInBounds_toArray, List.set_cons_zero, List.set_cons_succ, i64_w, i32_w]
                  rfl
                refine pure_ (i := 5) (N := some 22) (v := ?_) (a' := ?_) #[true, true, true, false, true, true, false, false, false, false] rfl rfl (any_of HT_.out (by kernel_rfl)) (fun _ _ _ h => h) (Or.inl ⟨by rfl, ?_⟩) ?_ ?_
                rotate_left
                · intro w'
                  go_simp
                  with_reducible rfl
                rotate_left
                · simp only [Act.put, List.setIfInBounds_toArray, List.set_cons_zero, List.set_cons_succ, i64_w, i32_w]
                  rfl
                refine pure_ (i := 6) (N := some 23) (v := ?_) (a' := ?_) #[true, true, true, false, true, true, true, false, false, false] rfl rfl (any_of HT_.out (by kernel_rfl)) (fun _ _ _ h => h) (Or.inl ⟨by rfl, ?_⟩) ?_ ?_
                rotate_left
                · intro w'
                  go_simp
                  with_reducible rfl
                rotate_left
                · simp only [Act.put, List.setIfInBounds_toArray, List.set_cons_zero, List.set_cons_succ, i64_w, i32_w]
                  rfl
                refine take_ (i := 3) (N := some 20) (v := ?_) (a' := ?_) #[true, true, true, true, true, true, true, false, false, false] rfl rfl (take_ofW HT_.out HW_.out (by kernel_rfl)) (fun _ _ _ h => h) (Or.inl ⟨by rfl, ?_⟩) hHeld ?_ ?_
                rotate_left
                · rintro w' ⟨s0, s1, s2, s3, s4, s5, s6, s7, s8, s9, s10, s11⟩
                  go_simp
                  with_reducible rfl
                rotate_left
                · simp only [Act.put, List.setIfInBounds_toArray, List.set_cons_zero, List.set_cons_succ, i64_w, i32_w]
                  rfl
                refine take_ (i := 7) (N := some 24) (v := ?_) (a' := ?_) #[true, true, true, true, true, true, true, true, false, false] rfl rfl (take_ofW HT_.out HW_.out (by kernel_rfl)) (fun _ _ _ h => h) (Or.inl ⟨by rfl, ?_⟩) hHeld ?_ ?_
                rotate_left
                · rintro w' ⟨s0, s1, s2, s3, s4, s5, s6, s7, s8, s9, s10, s11⟩
                  go_simp
                  with_reducible rfl
                rotate_left
                · simp only [Act.put, List.setIfInBounds_toArray, List.set_cons_zero, List.set_cons_succ, i64_w, i32_w]
                  rfl
                refine one_ (i := 8) (N := some 25) #[true, true, true, true, true, true, true, true, true, false] rfl rfl (one_of HT_.out (by kernel_rfl)) (by decide) (fun K hK => ?_)
                refine goes_ Try.func44 (by kernel_rfl) rfl #[.agg #[.int .i64 ((rd_T30 l0 x5_1).f0.f0), .int .i64 ((rd_T30 l0 x5_1).f0.f1), .int .i64 ((rd_T30 l0 x5_1).f1), .int .i64 ((rd_T30 l0 x5_1).f2), .string ((rd_T30 l0 x5_1).f3), .float .f64 bv187_5], .agg #[.int .i64 ((rd_T30 l1 x5_1).f0.f0), .int .i64 ((rd_T30 l1 x5_1).f0.f1), .int .i64 ((rd_T30 l1 x5_1).f1), .int .i64 ((rd_T30 l1 x5_1).f2), .string ((rd_T30 l1 x5_1).f3), .float .f64 bv188_5]] (by rfl) rfl rfl (by (try simp only [List.map_toArray, List.map_cons, List.map_nil]); first | done | rfl | (simp only [List.length_drop, List.length_take]; rfl)) ?_
                with_reducible refine (bonsairef13_Alike.calls ((rd_T30 l0 x5_1).f0.f0) ((rd_T30 l0 x5_1).f0.f1) ((rd_T30 l0 x5_1).f1) ((rd_T30 l0 x5_1).f2) ((rd_T30 l0 x5_1).f3) _ ((rd_T30 l0 x5_1).f4) ((rd_T30 l1 x5_1).f0.f0) ((rd_T30 l1 x5_1).f0.f1) ((rd_T30 l1 x5_1).f1) ((rd_T30 l1 x5_1).f2) ((rd_T30 l1 x5_1).f3) _ ((rd_T30 l1 x5_1).f4) false _ ?side1 ?side2 A7.out).mono ?_
                (case side1 => exact (by first | assumption | exact FB_lit _ _ rfl | exact FB_int _ | simpa using (by assumption)))
                (case side2 => exact (by first | assumption | exact FB_lit _ _ rfl | exact FB_int _ | simpa using (by assumption)))
                rintro e w12 ⟨rfl, hb⟩
                refine ⟨_, rfl, ?_⟩
                have n0_ := Aside0.mk (below_step (by repeat (first | (with_reducible first | exact HB.out | apply below_alloc | apply pw_below_drewN | apply below_drew1) | exact HB.out)) hb)
                clear HB
                have HB := n0_
                clear n0_
                (try clear hb)
                (try clear hb2)
                (try clear hk)
                (try clear hi)
                refine hK.out _ _ ⟨((HB.out.cell (World.block_lt_of_cell? w _ hw187_0)).trans hw187_0), ((HB.out.cell (World.block_lt_of_cell? w _ hw187_1)).trans hw187_1), ((HB.out.cell (World.block_lt_of_cell? w _ hw187_2)).trans hw187_2), ((HB.out.cell (World.block_lt_of_cell? w _ hw187_3)).trans hw187_3), ((HB.out.cell (World.block_lt_of_cell? w _ hw187_4)).trans hw187_4), ((HB.out.cell (World.block_lt_of_cell? w _ hw187_5)).trans hw187_5), ((HB.out.cell (World.block_lt_of_cell? w _ hw188_0)).trans hw188_0), ((HB.out.cell (World.block_lt_of_cell? w _ hw188_1)).trans hw188_1), ((HB.out.cell (World.block_lt_of_cell? w _ hw188_2)).trans hw188_2), ((HB.out.cell (World.block_lt_of_cell? w _ hw188_3)).trans hw188_3), ((HB.out.cell (World.block_lt_of_cell? w _ hw188_4)).trans hw188_4), ((HB.out.cell (World.block_lt_of_cell? w _ hw188_5)).trans hw188_5)⟩ (fun hHeld => ?_)
                clear hK K
                refine norm_ (a' := ?_) ?_ ?_
                rotate_left
                · show Act.put _ (some 25) _ = _
                  simp only [Act.put, List.setIfInBounds_toArray, List.set_cons_zero, List.set_cons_succ, i64_w, i32_w]
                  rfl
                refine pure_ (i := 9) (N := some 26) (v := ?_) (a' := ?_) #[true, true, true, true, true, true, true, true, true, true] rfl rfl (any_of HT_.out (by kernel_rfl)) (fun _ _ _ h => h) (Or.inl ⟨by rfl, ?_⟩) ?_ ?_
                rotate_left
                · intro w'
                  go_simp
                  with_reducible rfl
                rotate_left
                · simp only [Act.put, List.setIfInBounds_toArray, List.set_cons_zero, List.set_cons_succ, i64_w, i32_w]
                  rfl
                refine done_ (done_of HT_.out (by kernel_rfl)) ?_
                try go_wp2
                go_ret
                exact ⟨by first | rfl | (simp [errW_none, errW_some] <;> rfl) | (simp [*, errW_none, errW_some] <;> rfl), by repeat (first | (with_reducible first | exact HB.out | apply below_alloc | apply pw_below_drewN | apply below_drew1) | exact HB.out)⟩
            · rw [if_neg c6] at H
              exact absurd H (by simp)
          · rw [if_neg c5] at H
            exact absurd H (by simp)
        · rw [if_neg c4] at H
          have c4b0 : decide (x5_1 < (l0.length : Int)) = false := decide_eq_false c4
          clear c4
          obtain rfl := Option.some.inj H
          go_wp2
          go_ret
          exact ⟨by first | rfl | (simp [errW_none, errW_some] <;> rfl) | (simp [*, errW_none, errW_some] <;> rfl), by repeat (first | (with_reducible first | exact HB.out | apply below_alloc | apply pw_below_drewN | apply below_drew1) | exact HB.out)⟩
  · rw [if_neg c3] at H
    have c3b0 : ((l0.length : Int) == (l1.length : Int)) = false := beq_eq_false_iff_ne.mpr c3
    have c3b1 : ((l0.length : Int) != (l1.length : Int)) = true := bne_iff_ne.mpr c3
    have c3b2 : (l0.length == l1.length) = false := by first | simpa using c3 | (simp at c3 ⊢; omega)
    obtain rfl := Option.some.inj H
    go_enter Try.func15, Try.ntmps15
    go_wp2
    go_ret
    exact ⟨by first | rfl | (simp [errW_none, errW_some] <;> rfl) | (simp [*, errW_none, errW_some] <;> rfl), by repeat (first | (with_reducible first | exact HB.out | apply below_alloc | apply pw_below_drewN | apply below_drew1) | exact HB.out)⟩
end Go.Proofs.Ytfgnjndfnijjoaa.Print
end
