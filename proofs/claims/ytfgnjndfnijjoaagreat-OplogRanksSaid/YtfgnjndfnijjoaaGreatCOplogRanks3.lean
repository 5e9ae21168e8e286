/- Part 3 of what OplogRanks stands on: merged by a program of this session out of its texts. -/
import Derived.Test.YtfgnjndfnijjoaaGreatCOplogRanks2
section
namespace Go.Proofs.YtfgnjndfnijjoaaGreat.Print
open Go.RowKit Go.Proofs.YtfgnjndfnijjoaaGreatW.PrintWords Go.Proofs.YtfgnjndfnijjoaaGreatW.PrintLast Go.Proofs.YtfgnjndfnijjoaaGreatW.PrintMore
attribute [local go_sem] dJ dK eF eG cZ dc dL dM
attribute [local go_sem] bH
set_option linter.unusedVariables false
set_option linter.unusedSimpArgs false
def ag (w0 W : World) (g : Nat) (f0 : ByteArray) (f1 : Int) : Prop := W.heap[g]? = some (.cells #[.string f0, .int .i64 f1] 135 (0, 0)) ∧ w0.heap.size ≤ g
theorem ag.grown {w0 W : World} {g : Nat} {f0 : ByteArray} {f1 : Int} {W1 : World} {row : Option Nat} (h : ag w0 W g f0 f1) (hw : W.grownBy W1 row) (hne : some g ≠ row) : ag w0 W1 g f0 f1 := by
 obtain ⟨hb, hg⟩ := h; exact ⟨eL hb hw hne, hg⟩
theorem ag.fresh {w0 W : World} {g : Nat} {f0 : ByteArray} {f1 : Int} (h : ag w0 W g f0 f1) : ∀ k, W.heap.size ≤ k → k ≠ g := by
 obtain ⟨hb, hg⟩ := h; exact Kd.Ly hb
theorem ag.kept {w0 W : World} {g : Nat} {f0 : ByteArray} {f1 : Int} {W1 : World} {S : Nat → Prop} (h : ag w0 W g f0 f1) (hk : Kept W W1 S) (hne : ¬ S g) : ag w0 W1 g f0 f1 := by
 obtain ⟨hb, hg⟩ := h; exact ⟨GK hb hk hne, hg⟩
theorem ag.below {w0 W : World} {g : Nat} {f0 : ByteArray} {f1 : Int} {W1 : World} (h : ag w0 W g f0 f1) (hw : Below W.heap.size W W1) : ag w0 W1 g f0 f1 := h.grown (ld hw none) (by simp)
theorem ag.alloc {w0 W : World} {g : Nat} {f0 : ByteArray} {f1 : Int} (h : ag w0 W g f0 f1) (o : Obj) : ag w0 (W.alloc o) g f0 f1 := h.below (aH (Below.refl _ _) o)
theorem ag.drewN {w0 W : World} {g : Nat} {f0 : ByteArray} {f1 : Int} (h : ag w0 W g f0 f1) (m : Nat) : ag w0 (W.drewN m) g f0 f1 := h
theorem ag.drew {w0 W : World} {g : Nat} {f0 : ByteArray} {f1 : Int} (h : ag w0 W g f0 f1) : ag w0 W.drew g f0 f1 := h
theorem ag.at_ {w0 W : World} {g : Nat} {f0 : ByteArray} {f1 : Int} {w' : World} {m : Nat} (hq : W.drewN m = w') (h : ag w0 W g f0 f1) : ag w0 w' g f0 f1 := by subst hq; exact ag.drewN h m
theorem ag.apart {w0 W : World} {g : Nat} {f0 : ByteArray} {f1 : Int} {α : Type} {d : Kd α} {e : Nat} {base : Nat} {ok : Nat → Prop} {v : Value} {xs : List α} (h : ag w0 W g f0 f1) (ho : d.R e W base ok v xs) (ht : ∀ q, q ∈ e :: d.E → q ≠ 135) : d.R e W base (fun k => ok k ∧ k ≠ g) v xs := by
 obtain ⟨hb, hg⟩ := h; exact Kd.kH ho hb ht
theorem ag.nW {w0 W : World} {g : Nat} {f0 : ByteArray} {f1 : Int} {α : Type} {d : Kd α} {e : Nat} {base : Nat} {ok : Nat → Prop} {v : Value} {xs : List α} (h : ag w0 W g f0 f1) (ho : d.R e W base ok v xs) (ht : e ≠ 135) : some g ≠ v.ownBlock := by
 obtain ⟨hb, hg⟩ := h; exact Kd.l9 ho hb ht
theorem ag.lt {w0 W : World} {g : Nat} {f0 : ByteArray} {f1 : Int} (h : ag w0 W g f0 f1) : g < W.heap.size := by
 obtain ⟨hb, hg⟩ := h; exact cY hb
theorem ag.ge {w0 W : World} {g : Nat} {f0 : ByteArray} {f1 : Int} (h : ag w0 W g f0 f1) : w0.heap.size ≤ g := by
 obtain ⟨hb, hg⟩ := h; exact hg
theorem ag.far {w0 W : World} {g : Nat} {f0 : ByteArray} {f1 : Int} {p : Addr} (h : ag w0 W g f0 f1) (hne : g ≠ p.block) (u : Value) : ag w0 (W.setCell p u) g f0 f1 := by
 obtain ⟨hb, hg⟩ := h; exact ⟨iR hb hne u, hg⟩
theorem oL {W : World} {g : Nat} {f0 : ByteArray} {f1 : Int} (h : W.heap[g]? = some (.cells #[.string f0, .int .i64 f1] 135 (0, 0))) : W.cell? ⟨g, 0, none⟩ = some (.string f0) := (af h 0).trans rfl
theorem ag.OH {w0 W : World} {g : Nat} {f0 : ByteArray} {f1 : Int} (h : ag w0 W g f0 f1) (x : ByteArray) : ag w0 (W.setCell ⟨g, 0, none⟩ (.string x)) g x f1 := by
 obtain ⟨hb, hg⟩ := h; exact ⟨by simpa using jt hb 0 (.string x), hg⟩
theorem m6 {W : World} {g : Nat} {f0 : ByteArray} {f1 : Int} (h : W.heap[g]? = some (.cells #[.string f0, .int .i64 f1] 135 (0, 0))) : W.cell? ⟨g, 1, none⟩ = some (.int .i64 f1) := (af h 1).trans rfl
theorem ag.OI {w0 W : World} {g : Nat} {f0 : ByteArray} {f1 : Int} (h : ag w0 W g f0 f1) (x : Int) : ag w0 (W.setCell ⟨g, 1, none⟩ (.int .i64 x)) g f0 x := by
 obtain ⟨hb, hg⟩ := h; exact ⟨by simpa using jt hb 1 (.int .i64 x), hg⟩
theorem ag.lz {p q : Prop} (h : q) (t : q → p := by intro h_; (repeat (first | (with_reducible first | exact h_ | apply ag.alloc | apply ag.drewN | apply ag.drew | apply ag.OH | apply ag.OI) | exact h_)); (first | done | fail)) : p := t h
def eD.f (a0 : ByteArray) : Option (ByteArray × Int) := some (a0, 0)
set_option maxHeartbeats 8000000 in
set_option maxRecDepth 100000 in
theorem eD.calls (a0 : ByteArray) (r1 : ByteArray) (r2 : Int) (w0 w : World) (hB : Below w0.heap.size w0 w) (h : eD.f a0 = some (r1, r2)) :
 Calls Tryz.prog 40 #[.string a0] w fun e w' => ∃ g_ : Nat, e = .returned (.pointer (some ⟨g_, 0, none⟩)) ∧ ag w0 w' g_ r1 r2 ∧ Below w0.heap.size w0 w' ∧ Below w.heap.size w w' := by
 have hu135 := Tryz.underlying135; have HBW := Aside0.mk (Below.refl w.heap.size w); have HW0 := Aside0.mk hB.size; have HB := Aside0.mk hB; clear hB; have H := h; unfold eD.f at H; clear h; simp only [Option.some.injEq, Prod.mk.injEq] at H; obtain ⟨rfl, rfl⟩ := H; go_enter Tryz.func40, Tryz.ntmps40
 go_wp2_with (first | ((with_reducible refine bG (N := 5) rfl ?_); refine bW ?hg (N := 5) ?hd (cs := #[.string a0, .int .i64 0]) (t := 135) ?hr ?_; (case hd => rfl); (case hg => rfl); (case hr => first | (go_simp; done) | (go_simp; rfl)); intro zR hg w2 hbox hb; replace HB := sb HB hb; have OJ := am (hbox); have OK := am ((by rw [hg]; exact (ai (hz HBW.out)) : w.heap.size ≤ zR)); have Jo := am ((Nat.le_trans HW0.out (by rw [hg]; exact (ai (hz HBW.out)) : w.heap.size ≤ zR) : w0.heap.size ≤ zR)); replace HBW := am (aM HBW.out hb); clear hb hbox hg))
 go_ret
 exact ⟨_, rfl, (show ag w0 _ zR a0 0 from ⟨by (with_reducible repeat (first | refine bz ?_ _ | refine cQ ?_ | refine bx ?_ _)); exact OJ.out, Jo.out⟩), hz1 HB.out Jo.out, hz1 HBW.out OK.out⟩
theorem uu (c : Int) (w : World) : Calls Tryz.prog 105 #[.bool true, .int .i64 c] w fun e w' => e = .returned (.tuple #[]) ∧ w' = w := by
 go_enter Tryz.func105, Tryz.ntmps105
 go_wp2
 go_end0
 exact ⟨rfl, rfl⟩
set_option maxRecDepth 100000 in
theorem uw (c : Int) (w : World) : Calls Tryz.prog 105 #[.bool false, .int .i64 c] w fun e w' => e = .panicked [{ v := .iface 176 (.int .i64 c), recovered := false }] ∧ w' = w := by
 go_enter Tryz.func105, Tryz.ntmps105
 go_wp2
 exact ⟨rfl, rfl, rfl⟩
theorem Es (p : Addr) (w : World) :
    CallsD Tryz.prog 156 #[.pointer (some p)] .returning w fun e u' w' => e = .returned (.tuple #[]) ∧ u' = .returning ∧ w' = w := by
 refine callsD_of_wpS Tryz.func156 rfl fun c₀ cs hu => ?_
 apply wpS_seq
 apply wpS_region
 simp [wpOpsS, go_sem, recoverD, hu, Tryz.ntmps156, Exit.thenS]
 apply wpS_seq
 apply wpS_region
 simp [wpOpsS, go_sem, Exit.thenS]
 refine wpS_cond (t := false) (by simp [Act.eval, Array.replicate]) ?_; simp only [Bool.false_eq_true, if_false]; refine wpS_of_wp (wp_skip ?_)
 cases c₀
 simp_all [bodyPostS, results, Tryz.results156]
set_option maxRecDepth 100000 in
theorem Bn (p : Addr) (g : Nat) (c : Int) (s : ByteArray) (older : List PanicEntry) (w : World) (hp : w.cell? p = some (.pointer (some ⟨g, 0, none⟩)))
    (hI : w.heap[g]? = some (.cells #[.string s, .int .i64 0] 135 (0, 0))) (hne : p.block ≠ g) :
    CallsD Tryz.prog 156 #[.pointer (some p)] (.panicking ({ v := .iface 176 (.int .i64 c), recovered := false } :: older)) w fun e u' w' => e = .returned (.tuple #[]) ∧ u' = .panicking ({ v := .iface 176 (.int .i64 c), recovered := true } :: older) ∧ ∃ n, w' = (w.drewN n).setCell ⟨g, 1, none⟩ (.int .i64 c) := by
 refine callsD_of_wpS Tryz.func156 rfl fun c₀ cs hu => ?_
 apply wpS_seq
 apply wpS_region
 simp [wpOpsS, go_sem, recoverD, hu, Tryz.ntmps156, Exit.thenS]
 apply wpS_seq
 apply wpS_region
 simp [wpOpsS, go_sem, Exit.thenS]
 refine wpS_cond (t := true) (by simp [Act.eval, Array.replicate]) ?_; simp only [if_true]; refine wpS_of_wp ?_; have h1 := m6 hI; have h2 := aj hI 1; have hta : ∀ (v : Value) (W : World), (Instr.typeAssert (.iface 176 v) 20 176 false).run Tryz.prog W = .ok v W := fun v W => by rfl
 clear hI
 have hk : ∀ v, ((w.setCell ⟨g, 1, none⟩ v).drew).cell? p = some (.pointer (some ⟨g, 0, none⟩)) := by
  intro v; have hne' : (⟨g, 1, none⟩ : Addr) ≠ p := by rintro rfl; exact hne rfl
  simp [World.cell?_setCell_other _ _ _ _ hne', hp]
 go_region_held3 (fun W => W.cell? p = some (.pointer (some ⟨g, 0, none⟩))) (first | go_keep | exact hk _) (first | fail)
 cases c₀
 simp_all [bodyPostS, results, Tryz.results156]
 exact ⟨1, rfl⟩
set_option maxHeartbeats 8000000 in
set_option maxRecDepth 100000 in
theorem Bo (g : Nat) (s s' : ByteArray) (c : Nat) (caps : Array Value) (w : World) (R : World → Prop)
    (hI : w.heap[g]? = some (.cells #[.string s, .int .i64 0] 135 (0, 0)))
    (hc : ∀ n, Calls Tryz.prog c (#[.string s] ++ caps) ((w.alloc (.cells #[.pointer (some ⟨g, 0, none⟩)] 65)).drewN n) fun e w' => e = .returned (.string s') ∧ R w')
    (hcf : ∀ W, (callFunc c (#[.string s] ++ caps)).run Tryz.prog W = .ok (.enter c (#[.string s] ++ caps)) W)
    (hR : ∀ w', R w' → w'.heap[g]? = some (.cells #[.string s, .int .i64 0] 135 (0, 0)) ∧ w'.heap[w.heap.size]? = some (.cells #[.pointer (some ⟨g, 0, none⟩)] 65 (0, 0))) :
    Calls Tryz.prog 103 #[.pointer (some ⟨g, 0, none⟩), .func (.func c) #[] caps] w fun e w' => e = .returned (.tuple #[]) ∧ ∃ w1, R w1 ∧ w' = w1.setCell ⟨g, 0, none⟩ (.string s') := by
 have hmf : ∀ (fn : Fn) (first cap : Array Value) (w : World), (Instr.makeFunc fn first cap).run Tryz.prog w = .ok (.func fn first cap) w := fun _ _ _ _ => rfl
 have HI := bx hI (.cells #[.pointer (some ⟨g, 0, none⟩)] 65); have HG := Aside0.mk (cY hI); have h0 := oL HI; have h1 := m6 HI; have HH := Aside0.mk HI; clear HI hI; have HC := Aside0.mk hc; have HR := Aside0.mk hR; clear hc hR
 go_enter_defers Tryz.func103, Tryz.ntmps103
 go_wp2_with fail
 refine wp_region_noPanic ?_; refine wp_region_held_drew (S := fun W => W.cell? ⟨w.heap.size, 0, none⟩ = some (.pointer (some ⟨g, 0, none⟩))) (by kernel_rfl) (by go_simp) (fun hHeld => ?_); refine wpAnyH_take (i := 0) (v := .pointer (some ⟨g, 0, none⟩)) rfl (by kernel_rfl) (by kernel_rfl) (by kernel_rfl) (fun _ _ _ h => h) (Or.inl ⟨by rfl, fun W hS => by (try dsimp only at hS); go_simp⟩) hHeld ?_; simp only [Act.put, List.setIfInBounds_toArray, List.set_cons_zero, List.set_cons_succ]; refine wpAnyH_take (i := 1) (v := .func (.func c) #[] caps) rfl (by kernel_rfl) (by kernel_rfl) (by kernel_rfl) (fun _ _ _ h => h) (Or.inl ⟨by rfl, fun W hS => by go_simp⟩) hHeld ?_; simp only [Act.put, List.setIfInBounds_toArray, List.set_cons_zero, List.set_cons_succ]; refine wpAnyH_take (i := 2) (v := .pointer (some ⟨g, 0, none⟩)) rfl (by kernel_rfl) (by kernel_rfl) (by kernel_rfl) (fun _ _ _ h => h) (Or.inl ⟨by rfl, fun W hS => by (try dsimp only at hS); go_simp⟩) hHeld ?_; simp only [Act.put, List.setIfInBounds_toArray, List.set_cons_zero, List.set_cons_succ]; refine wpAnyH_take (i := 3) (v := .pointer (some ⟨g, 0, none⟩)) rfl (by kernel_rfl) (by kernel_rfl) (by kernel_rfl) (fun _ _ _ h => h) (Or.inl ⟨by rfl, fun W hS => by go_simp⟩) hHeld ?_; simp only [Act.put, List.setIfInBounds_toArray, List.set_cons_zero, List.set_cons_succ]; refine wpAnyH_take (i := 4) (v := .pointer (some ⟨g, 0, none⟩)) rfl (by kernel_rfl) (by kernel_rfl) (by kernel_rfl) (fun _ _ _ h => h) (Or.inl ⟨by rfl, fun W hS => by go_simp⟩) hHeld ?_; simp only [Act.put, List.setIfInBounds_toArray, List.set_cons_zero, List.set_cons_succ]; refine wpAnyH_ready (rs := [5]) (by kernel_rfl) (by simp) (AllReadyH.cons rfl (fun K hK => ?_) AllReadyH.nil)
 go_simp
 refine hK.out _ _ hHeld (fun hHeld => ?_); clear hK K; (try simp only [Act.put, List.setIfInBounds_toArray, List.set_cons_zero, List.set_cons_succ]); refine wpAnyH_ready (rs := [6]) (by kernel_rfl) (by simp) (AllReadyH.cons rfl (fun K hK => ?_) AllReadyH.nil)
 go_simp
 refine Calls.mono (HC.out 1) ?_; rintro e w' ⟨rfl, hq⟩; have hz := HR.out _ hq; have hbox : w'.cell? ⟨w.heap.size, 0, none⟩ = some (.pointer (some ⟨g, 0, none⟩)) := (af hz.2 0).trans rfl; have hg0 := oL hz.1; have hgf := aj hz.1 0
 have hbox2 : ∀ v, (w'.setCell ⟨g, 0, none⟩ v).cell? ⟨w.heap.size, 0, none⟩ = some (.pointer (some ⟨g, 0, none⟩)) := fun v => by
  have hne : (⟨g, 0, none⟩ : Addr) ≠ ⟨w.heap.size, 0, none⟩ := by
   intro h
   injection h with h
   have := HG.out
   omega
  rw [World.cell?_setCell_other _ _ _ _ hne]; exact hbox
 refine hK.out _ _ hbox (fun hHeld => ?_); clear hK K; (try simp only [Act.put, List.setIfInBounds_toArray, List.set_cons_zero, List.set_cons_succ]); refine wpAnyH_take (i := 7) (v := .pointer (some ⟨g, 0, none⟩)) rfl (by kernel_rfl) (by kernel_rfl) (by kernel_rfl) (fun _ _ _ h => h) (Or.inl ⟨by rfl, fun W hS => by go_simp⟩) hHeld ?_; simp only [Act.put, List.setIfInBounds_toArray, List.set_cons_zero, List.set_cons_succ]; refine wpAnyH_take (i := 8) (v := .pointer (some ⟨g, 0, none⟩)) rfl (by kernel_rfl) (by kernel_rfl) (by kernel_rfl) (fun _ _ _ h => h) (Or.inl ⟨by rfl, fun W hS => by go_simp⟩) hHeld ?_; simp only [Act.put, List.setIfInBounds_toArray, List.set_cons_zero, List.set_cons_succ]; refine wpAnyH_ready (rs := [9]) (by kernel_rfl) (by simp) (AllReadyH.cons rfl (fun K hK => ?_) AllReadyH.nil)
 go_simp
 refine hK.out _ _ (hbox2 _) (fun hHeld => ?_); clear hK K; refine wpAnyH_done (by kernel_rfl) ?_ _
 all_goals
  refine NoPanic.normal ?_; refine leaves_cons (f := 156) (args := #[.pointer (some ⟨w.heap.size, 0, none⟩)]) (by simp) (by simp [go_sem]) ?_; refine (Es ⟨w.heap.size, 0, none⟩ _).mono ?_; rintro e u' w'' ⟨rfl, rfl, rfl⟩
  simp [Leaves, settle, results, Tryz.results103, go_sem]
  exact ⟨w', hq, rfl⟩
def MA (D : List Deferred) (R : List PanicEntry → World → Prop) : Exit → Act → World → Prop
  | .panic ch, a, w => a.defers = D ∧ R ch w
  | _, _, _ => False
set_option maxHeartbeats 8000000 in
set_option maxRecDepth 100000 in
theorem uO (g : Nat) (s : ByteArray) (c : Nat) (k : Int) (caps : Array Value) (w : World) (R : World → Prop)
    (hI : w.heap[g]? = some (.cells #[.string s, .int .i64 0] 135 (0, 0)))
    (hc : ∀ n, Calls Tryz.prog c (#[.string s] ++ caps) ((w.alloc (.cells #[.pointer (some ⟨g, 0, none⟩)] 65)).drewN n) fun e w' => e = .panicked [{ v := .iface 176 (.int .i64 k), recovered := false }] ∧ R w')
    (hcf : ∀ W, (callFunc c (#[.string s] ++ caps)).run Tryz.prog W = .ok (.enter c (#[.string s] ++ caps)) W)
    (hR : ∀ w', R w' → w'.heap[g]? = some (.cells #[.string s, .int .i64 0] 135 (0, 0)) ∧ w'.heap[w.heap.size]? = some (.cells #[.pointer (some ⟨g, 0, none⟩)] 65 (0, 0))) :
    Calls Tryz.prog 103 #[.pointer (some ⟨g, 0, none⟩), .func (.func c) #[] caps] w fun e w' => e = .returned (.tuple #[]) ∧ ∃ w1 n, R w1 ∧ w' = (World.drewN w1 n).setCell ⟨g, 1, none⟩ (.int .i64 k) := by
 have hmf : ∀ (fn : Fn) (first cap : Array Value) (w : World), (Instr.makeFunc fn first cap).run Tryz.prog w = .ok (.func fn first cap) w := fun _ _ _ _ => rfl
 have HI := bx hI (.cells #[.pointer (some ⟨g, 0, none⟩)] 65); have HG := Aside0.mk (cY hI); have h0 := oL HI; have h1 := m6 HI; have HH := Aside0.mk HI; clear HI hI; have HC := Aside0.mk hc; have HR := Aside0.mk hR; clear hc hR
 go_enter_defers Tryz.func103, Tryz.ntmps103
 go_wp2_with fail
 refine Code.wp_mono (Q := MA [{ target := .fn (.func 156) #[.pointer (some ⟨w.heap.size, 0, none⟩)], args := #[] }] fun ch w' => ch = [{ v := .iface 176 (.int .i64 k), recovered := false }] ∧ R w') ?_ ?_
 ·
  intro e a w1 hq
  cases e with
  | panic ch =>
   obtain ⟨hd, rfl, hr⟩ := hq; obtain ⟨tmps, defers⟩ := a; simp only at hd; subst hd; have hz := HR.out _ hr; refine leaves_cons (f := 156) (args := #[.pointer (some ⟨w.heap.size, 0, none⟩)]) (by simp) (by simp [go_sem]) ?_; refine (Bn ⟨w.heap.size, 0, none⟩ g k s [] _ ((af hz.2 0).trans rfl) hz.1 (by have := HG.out; simp; omega)).mono ?_; rintro e u' w'' ⟨rfl, rfl, n, rfl⟩
   simp [Leaves, settle, results, Tryz.results103, go_sem]
   exact ⟨w1, hr, n, rfl⟩
  | _ => exact hq.elim
 refine wp_region_held_drew (S := fun W => W.cell? ⟨w.heap.size, 0, none⟩ = some (.pointer (some ⟨g, 0, none⟩))) (by kernel_rfl) (by go_simp) (fun hHeld => ?_); refine wpAnyH_take (i := 0) (v := .pointer (some ⟨g, 0, none⟩)) rfl (by kernel_rfl) (by kernel_rfl) (by kernel_rfl) (fun _ _ _ h => h) (Or.inl ⟨by rfl, fun W hS => by (try dsimp only at hS); go_simp⟩) hHeld ?_; simp only [Act.put, List.setIfInBounds_toArray, List.set_cons_zero, List.set_cons_succ]; refine wpAnyH_take (i := 1) (v := .func (.func c) #[] caps) rfl (by kernel_rfl) (by kernel_rfl) (by kernel_rfl) (fun _ _ _ h => h) (Or.inl ⟨by rfl, fun W hS => by go_simp⟩) hHeld ?_; simp only [Act.put, List.setIfInBounds_toArray, List.set_cons_zero, List.set_cons_succ]; refine wpAnyH_take (i := 2) (v := .pointer (some ⟨g, 0, none⟩)) rfl (by kernel_rfl) (by kernel_rfl) (by kernel_rfl) (fun _ _ _ h => h) (Or.inl ⟨by rfl, fun W hS => by (try dsimp only at hS); go_simp⟩) hHeld ?_; simp only [Act.put, List.setIfInBounds_toArray, List.set_cons_zero, List.set_cons_succ]; refine wpAnyH_take (i := 3) (v := .pointer (some ⟨g, 0, none⟩)) rfl (by kernel_rfl) (by kernel_rfl) (by kernel_rfl) (fun _ _ _ h => h) (Or.inl ⟨by rfl, fun W hS => by go_simp⟩) hHeld ?_; simp only [Act.put, List.setIfInBounds_toArray, List.set_cons_zero, List.set_cons_succ]; refine wpAnyH_take (i := 4) (v := .pointer (some ⟨g, 0, none⟩)) rfl (by kernel_rfl) (by kernel_rfl) (by kernel_rfl) (fun _ _ _ h => h) (Or.inl ⟨by rfl, fun W hS => by go_simp⟩) hHeld ?_; simp only [Act.put, List.setIfInBounds_toArray, List.set_cons_zero, List.set_cons_succ]; refine wpAnyH_ready (rs := [5]) (by kernel_rfl) (by simp) (AllReadyH.cons rfl (fun K hK => ?_) AllReadyH.nil)
 go_simp
 refine hK.out _ _ hHeld (fun hHeld => ?_); clear hK K; (try simp only [Act.put, List.setIfInBounds_toArray, List.set_cons_zero, List.set_cons_succ]); refine wpAnyH_ready (rs := [6]) (by kernel_rfl) (by simp) (AllReadyH.cons rfl (fun K hK => ?_) AllReadyH.nil)
 go_simp
 refine Calls.mono (HC.out 1) ?_; rintro e w' ⟨rfl, hq⟩; exact ⟨rfl, rfl, hq⟩
theorem Ho (s x : ByteArray) (n : Int) (pn po : Addr) (w : World) (hn : w.cell? pn = some (.int .i64 n)) (ho : w.cell? po = some (.string x)) (hf : w.frozen? po = false) (hne : po ≠ pn) (h0 : 0 ≤ n) (h1 : n ≤ s.size) :
    Calls Tryz.prog 106 #[.string s, .pointer (some pn), .pointer (some po)] w fun e w' => e = .returned (.string (s.extract n.toNat s.size)) ∧ w' = w.setCell po (.string (s.extract 0 n.toNat)) := by
 have h0b := decide_eq_true h0; have h1b := decide_eq_true h1; have h0t := eq_true h0; have h1t := eq_true h1; have hk : ∀ v, (w.setCell po v).cell? pn = some (.int .i64 n) := fun v => by rw [World.cell?_setCell_other _ _ _ _ hne]; exact hn
 go_enter Tryz.func106, Tryz.ntmps106
 go_wp2_with (go_at_call 105; refine (uu _ _).mono ?_; rintro e w' ⟨rfl, rfl⟩)
 go_ret
 exact ⟨rfl, rfl⟩
theorem Hp (s x : ByteArray) (n : Int) (pn po : Addr) (w : World) (hn : w.cell? pn = some (.int .i64 n)) (h : n < 0 ∨ s.size < n) :
    Calls Tryz.prog 106 #[.string s, .pointer (some pn), .pointer (some po)] w fun e w' => e = .panicked [{ v := .iface 176 (.int .i64 2), recovered := false }] ∧ w' = w := by
 by_cases h0 : 0 ≤ n
 ·
  have h1 : ¬ n ≤ s.size := by omega
  have h0b := decide_eq_true h0; have h1b := decide_eq_false h1; clear h h0 h1; go_enter Tryz.func106, Tryz.ntmps106
  go_wp2_with (go_at_call 105; refine (uw _ _).mono ?_; rintro e w' ⟨rfl, rfl⟩)
  exact ⟨rfl, rfl, rfl⟩
 ·
  have h0b := decide_eq_false h0; clear h h0; go_enter Tryz.func106, Tryz.ntmps106
  go_wp2_with (go_at_call 105; refine (uw _ _).mono ?_; rintro e w' ⟨rfl, rfl⟩)
  exact ⟨rfl, rfl, rfl⟩
def fo (s : ByteArray) : Nat → Int → Int → Int × Int × Int
  | 0, _, _ => (3, 0, 0)
  | k + 1, i, n => if i < s.size then
      (if (i < 9 ∨ bt s i ≤ 1) ∧ (i = 0 ∨ bt s i ≠ 0) then
        (if bt s i < 128 then (0, n + bt s i % 128 * 128 ^ i.toNat, i + 1) else fo s k (i + 1) (n + bt s i % 128 * 128 ^ i.toNat))
      else (3, 0, 0)) else (2, 0, 0)
theorem gv (n : Int) (h₀ : 0 ≤ n) (h₁ : n < 2 ^ 64) : IntKind.u64.wrap n = n := by simp [IntKind.wrap, IntKind.bits, IntKind.signed]; omega
theorem ye (k : IntKind) (x y : Int) : bits .or k x y = bits .or k y x := by simp only [bits]; rw [BitVec.or_comm]
theorem CE (b : Int) (h0 : 0 ≤ b) (h1 : b ≤ 255) : bits .andNot .u8 b 128 = b % 128 := by
 obtain ⟨n, rfl⟩ := Int.eq_ofNat_of_zero_le h0; have hn : n < 256 := by omega
 have key : ∀ m : Fin 256, bits .andNot .u8 ((m.val : Nat) : Int) 128 = ((m.val : Nat) : Int) % 128 := by decide +kernel
 exact key ⟨n, hn⟩
theorem vA (i : Int) : (2 : Int) ^ (7 * i).toNat = 128 ^ i.toNat := by
 rw [show (7 * i).toNat = 7 * i.toNat by omega, Int.pow_mul]; rfl
theorem kU (i : Int) (hi : i ≤ 9) : (128 : Int) ^ i.toNat ≤ 2 ^ 63 ∧ 0 < (128 : Int) ^ i.toNat := by
 have h : i.toNat ≤ 9 := by omega
 generalize i.toNat = j at h
 rcases j with _ | _ | _ | _ | _ | _ | _ | _ | _ | _ | j
 all_goals first | omega | (constructor <;> decide)
theorem zi (i : Int) (hi : i ≤ 8) : (128 : Int) ^ i.toNat ≤ 2 ^ 56 := by
 have h : i.toNat ≤ 8 := by omega
 generalize i.toNat = j at h
 rcases j with _ | _ | _ | _ | _ | _ | _ | _ | _ | j
 all_goals first | omega | decide
theorem vB (i b n : Int) (h0 : 0 ≤ i) (h9 : i ≤ 9) (hb0 : 0 ≤ b) (hb : b ≤ 255) (h1 : i < 9 ∨ b ≤ 1) (hn0 : 0 ≤ n) (hn : n < 128 ^ i.toNat) :
    bits .or .u64 n (IntKind.u64.wrap (IntKind.u64.wrap (bits .andNot .u8 b 128) * 2 ^ (7 * i).toNat)) = n + b % 128 * 128 ^ i.toNat ∧ n + b % 128 * 128 ^ i.toNat < 2 ^ 64 := by
 rw [CE b hb0 hb, vA, gv (b % 128) (by omega) (by omega)]; obtain ⟨hp, hq⟩ := kU i h9
 have hm : b % 128 * 128 ^ i.toNat ≤ 2 ^ 64 - 128 ^ i.toNat := by
  rcases h1 with h1 | h1
  ·
   have h8 := zi i (by omega); have : b % 128 * 128 ^ i.toNat ≤ 127 * 128 ^ i.toNat := Int.mul_le_mul_of_nonneg_right (by omega) (by omega)
   omega
  ·
   have : b % 128 * 128 ^ i.toNat ≤ 1 * 128 ^ i.toNat := Int.mul_le_mul_of_nonneg_right (by omega) (by omega)
   omega
 have hm0 : 0 ≤ b % 128 * 128 ^ i.toNat := Int.mul_nonneg (by omega) (by omega); rw [gv (b % 128 * 128 ^ i.toNat) hm0 (by omega)]; refine ⟨?_, by omega⟩; rw [ye, bits_join .u64 64 (by decide) gv (7 * i).toNat _ _ hm0 ?_ (by omega) hn0 (by rw [vA]; exact hn) (by omega)]
 · omega
 · rw [vA]; exact Int.mul_emod_left _ _
def MB (R : Int × Int × Int) (s : ByteArray) (po : Addr) (w : World) (e : Ending) (w' : World) : Prop :=
      (R.1 = 0 ∧ e = .returned (.string (s.extract R.2.2.toNat s.size)) ∧ w' = w.setCell po (.int .u64 R.2.1)) ∨
      (R.1 ≠ 0 ∧ e = .panicked [{ v := .iface 176 (.int .i64 R.1), recovered := false }] ∧ w' = w)
set_option maxHeartbeats 8000000 in
set_option maxRecDepth 100000 in
theorem Bp (s : ByteArray) (po : Addr) (w : World) (x : Int) (hs : s.size ≤ 9223372036854775000) (ho : w.cell? po = some (.int .u64 x)) (hf : w.frozen? po = false) :
    Calls Tryz.prog 104 #[.string s, .pointer (some po)] w (MB (fo s 10 0 0) s po w) := by
 obtain ⟨R, hR⟩ : ∃ R, fo s 10 0 0 = R := ⟨_, rfl⟩; rw [hR]; have HR0 := Aside0.mk hR; clear hR; go_enter Tryz.func104, Tryz.ntmps104
 go_wp2
 go_loopg [4, 5] 10 (fun gk v4 v5 w' => ∃ (i : Int) (n : Int), v4 = .int .u64 n ∧ v5 = .int .i64 i ∧ 0 ≤ i ∧ i + gk = 10 ∧ 1 ≤ gk ∧ Aside0 (0 ≤ n ∧ n < 128 ^ i.toNat) ∧ Aside0 (fo s gk i n = R) ∧ i ≤ s.size ∧ w = w')
 case atStart => exact ⟨0, 0, rfl, rfl, by omega, by omega, by omega, ⟨by decide⟩, HR0, by omega, rfl⟩
 case round =>
  clear HR0; obtain ⟨i, n, rfl, rfl, hi0, hi9, hgk, HN, HA, his, rfl⟩ := hrel; have p7 := eq_true hi0; have hr := oZ s i
  cases gk with
  | zero => omega
  | succ k =>
  by_cases hlt : i < s.size
  ·
   have hlt' : decide (i < (s.size : Int)) = true := decide_eq_true hlt; have q7 := eq_true hlt; have hx := Je s i
   by_cases hok : (i < 9 ∨ bt s i ≤ 1) ∧ (i = 0 ∨ bt s i ≠ 0)
   ·
    obtain ⟨hs1, hs2⟩ := vB i (bt s i) n hi0 (by omega) hr.1 hr.2 hok.1 HN.out.1 HN.out.2; have HM := Aside0.mk hs2; clear hs2; have hA := HA.out; simp only [fo, if_pos hlt, if_pos hok] at hA
    by_cases hb : bt s i < 128
    ·
     have hb' := decide_eq_true hb; rw [if_pos hb] at hA; have HR := Aside0.mk hA; clear hA HA; have s1 := eq_true (show 0 ≤ i + 1 by omega); have s2 := eq_true (show i + 1 ≤ (s.size : Int) by omega); obtain ⟨hok1, hok2⟩ := hok
     have c : (decide (i < 9) = true ∧ (i == 0) = true) ∨ (decide (i < 9) = true ∧ (i == 0) = false ∧ (bt s i != 0) = true) ∨ (decide (i < 9) = false ∧ decide (bt s i ≤ 1) = true ∧ (i == 0) = false ∧ (bt s i != 0) = true) := by
      simp only [decide_eq_false_iff_not, decide_eq_true_eq, beq_eq_false_iff_ne, bne_iff_ne, beq_iff_eq]
      omega
     clear hok1 hok2
     rcases c with ⟨c1, c2⟩ | ⟨c1, c2, c3⟩ | ⟨c1, c2, c3, c4⟩
     all_goals
      go_wp2_with (go_at_call 105; refine (uu _ _).mono ?_; rintro e w' ⟨rfl, rfl⟩)
      go_ret
      exact .inl ⟨by rw [← HR.out], by rw [← HR.out]; rfl, by rw [← HR.out]⟩
    ·
     have hb' := decide_eq_false hb; rw [if_neg hb] at hA; have HA' := Aside0.mk hA; clear hA HA; obtain ⟨hok1, hok2⟩ := hok; have h9 : i < 9 := by omega
     have c1 := decide_eq_true h9
     have HP : Aside0 (0 ≤ n + bt s i % 128 * 128 ^ i.toNat ∧ n + bt s i % 128 * 128 ^ i.toNat < 128 ^ (i + 1).toNat) := by
      obtain ⟨hp, hq⟩ := kU i (by omega); have hn := HN.out; have hm0 : 0 ≤ bt s i % 128 * 128 ^ i.toNat := Int.mul_nonneg (by omega) (by omega); have : bt s i % 128 * 128 ^ i.toNat ≤ 127 * 128 ^ i.toNat := Int.mul_le_mul_of_nonneg_right (by omega) (by omega); rw [show (i + 1).toNat = i.toNat + 1 by omega, Int.pow_succ]; exact ⟨by omega, by omega⟩
     by_cases h0 : i = 0
     all_goals
      first | have c2 := beq_iff_eq.mpr h0 | (have c2 := beq_eq_false_iff_ne.mpr h0; have c2b := bne_iff_ne.mpr (show bt s i ≠ 0 by omega))
      clear hok1 hok2 h0
      go_wp2_with (go_at_call 105; refine (uu _ _).mono ?_; rintro e w' ⟨rfl, rfl⟩)
      go_roundg k
      case measure => omega
      case rel => exact ⟨i + 1, n + bt s i % 128 * 128 ^ i.toNat, by first | rfl | simp, rfl, by omega, by omega, by omega, HP, HA', by omega, rfl⟩
   ·
    have hA := HA.out; simp only [fo, if_pos hlt, if_neg hok] at hA; have HR := Aside0.mk hA; clear hA HA
    have c : (decide (i < 9) = false ∧ decide (bt s i ≤ 1) = false) ∨ (decide (i < 9) = true ∧ (i == 0) = false ∧ (bt s i != 0) = false) ∨ (decide (i < 9) = false ∧ decide (bt s i ≤ 1) = true ∧ (i == 0) = false ∧ (bt s i != 0) = false) := by
     simp only [decide_eq_false_iff_not, decide_eq_true_eq, beq_eq_false_iff_ne, bne_eq_false_iff_eq]
     omega
    clear hok
    rcases c with ⟨c1, c2⟩ | ⟨c1, c2, c3⟩ | ⟨c1, c2, c3, c4⟩
    all_goals
     go_wp2_with (first | (go_at_call 105; (with_reducible refine (uu 2 _).mono ?_); rintro e w' ⟨rfl, rfl⟩) | (go_at_call 105; (with_reducible refine (uw 3 _).mono ?_); rintro e w' ⟨rfl, rfl⟩))
     exact ⟨rfl, .inr ⟨by rw [← HR.out]; decide, by rw [← HR.out], rfl⟩⟩
  ·
   have hlt' : decide (i < (s.size : Int)) = false := decide_eq_false hlt; have hA := HA.out; simp only [fo, if_neg hlt] at hA; have HR := Aside0.mk hA; clear hA HA
   go_wp2_with (go_at_call 105; refine (uw _ _).mono ?_; rintro e w' ⟨rfl, rfl⟩)
   exact ⟨rfl, .inr ⟨by rw [← HR.out]; decide, by rw [← HR.out], rfl⟩⟩
set_option maxRecDepth 100000 in
theorem zj (g : Nat) (s : ByteArray) (c : Nat) (k : Int) (caps : Array Value) (w : World) (hk : k ≠ 0)
    (hI : w.heap[g]? = some (.cells #[.string s, .int .i64 k] 135 (0, 0))) :
    Calls Tryz.prog 103 #[.pointer (some ⟨g, 0, none⟩), .func (.func c) #[] caps] w fun e w' => e = .returned (.tuple #[]) ∧ w' = w.alloc (.cells #[.pointer (some ⟨g, 0, none⟩)] 65) := by
 have HI := bx hI (.cells #[.pointer (some ⟨g, 0, none⟩)] 65); have h1 := m6 HI; have hk' := bne_iff_ne.mpr hk; clear HI hI hk
 go_enter_defers Tryz.func103, Tryz.ntmps103
 go_wp2_with fail
 exact ⟨_, by simp [results, Tryz.results103, go_sem], rfl, rfl⟩
def aJ.f (s : ByteArray) (k : Int) : Option (Int × ByteArray × Int) :=
  if s.size ≤ 9223372036854775000 then
    (if k = 0 then (if (fo s 10 0 0).1 = 0 then some ((fo s 10 0 0).2.1, s.extract (fo s 10 0 0).2.2.toNat s.size, 0) else some (0, s, (fo s 10 0 0).1))
    else some (0, s, k)) else none
theorem Bq (args : Array Value) (W : World) : (callFunc 104 args).run Tryz.prog W = .ok (.enter 104 args) W := by
 simp [go_sem, Tryz.func104]
set_option maxHeartbeats 8000000 in
set_option maxRecDepth 100000 in
theorem aJ.calls (g : Nat) (s0_0 : ByteArray) (s0_1 : Int) (r1 : Int) (r2 : ByteArray) (r3 : Int) (w0 w : World) (hI : ag w0 w g s0_0 s0_1) (hB : Below w0.heap.size w0 w) (h : aJ.f s0_0 s0_1 = some (r1, r2, r3)) :
    Calls Tryz.prog 41 #[.pointer (some ⟨g, 0, none⟩)] w fun e w' => e = .returned (.int .u64 r1) ∧ ag w0 w' g r2 r3 ∧ Below w0.heap.size w0 w' ∧ bE w w' g none := by
  have hmf : ∀ (fn : Fn) (first cap : Array Value) (w : World), (Instr.makeFunc fn first cap).run Tryz.prog w = .ok (.func fn first cap) w := fun _ _ _ _ => rfl
  obtain ⟨hg, hge⟩ := hI
  have hlt := cY hg
  have hg1 := bx hg (.cells #[.int .u64 0] 60)
  have hsz := hB.size
  unfold aJ.f at h
  by_cases hs : s0_0.size ≤ 9223372036854775000
  · rw [if_pos hs] at h
    by_cases hk : s0_1 = 0
    · subst hk
      rw [if_pos rfl] at h
      by_cases hR : (fo s0_0 10 0 0).1 = 0
      · rw [if_pos hR] at h
        simp only [Option.some.injEq, Prod.mk.injEq] at h
        obtain ⟨rfl, rfl, rfl⟩ := h
        have ho : (w.alloc (.cells #[.int .u64 0] 60)).heap[w.heap.size]? = some (.cells #[.int .u64 0] 60 (0, 0)) := eJ w _
        have ho1 := bx ho (.cells #[.pointer (some ⟨g, 0, none⟩)] 65)
        have hg2 := bx hg1 (.cells #[.pointer (some ⟨g, 0, none⟩)] 65)
        have hb2 := eJ (w.alloc (.cells #[.int .u64 0] 60)) (.cells #[.pointer (some ⟨g, 0, none⟩)] 65)
        have hsA : (w.alloc (.cells #[.int .u64 0] 60)).heap.size = w.heap.size + 1 := by simp
        have hnum := fun n => Bp s0_0 ⟨w.heap.size, 0, none⟩ (((w.alloc (.cells #[.int .u64 0] 60)).alloc (.cells #[.pointer (some ⟨g, 0, none⟩)] 65)).drewN n) 0 hs ((af (bz ho1 n) 0).trans rfl) (aj (bz ho1 n) 0)
        have HC := Aside0.mk (Bo g s0_0 (s0_0.extract (fo s0_0 10 0 0).2.2.toNat s0_0.size) 104 #[.pointer (some ⟨w.heap.size, 0, none⟩)] (w.alloc (.cells #[.int .u64 0] 60))
          (fun w' => ∃ n, w' = ((((w.alloc (.cells #[.int .u64 0] 60)).alloc (.cells #[.pointer (some ⟨g, 0, none⟩)] 65)).drewN n).setCell ⟨w.heap.size, 0, none⟩ (.int .u64 (fo s0_0 10 0 0).2.1))) hg1
          (fun n => (hnum n).mono (by
            rintro e w' (⟨_, rfl, rfl⟩ | ⟨hne, _⟩)
            · exact ⟨rfl, n, rfl⟩
            · exact absurd hR hne))
          (Bq _) (by
            rintro w' ⟨n, rfl⟩
            exact ⟨iR (bz hg2 n) (by simp; omega) _, iR (bz hb2 n) (by simp) _⟩))
        have HB := Aside0.mk hB
        have HG := Aside0.mk hg2
        have HO := Aside0.mk ho1
        have HL := Aside0.mk hlt
        have HE := Aside0.mk hge
        have HZ := Aside0.mk hsz
        clear hB hg hg1 ho ho1 hg2 hb2 hnum hsA hlt hge hsz
        go_enter Tryz.func41, Tryz.ntmps41
        go_wp2_with (go_at_call 103; refine HC.out.mono ?_; rintro e w' ⟨rfl, w1, ⟨n, rfl⟩, hw⟩; have hcell : w'.cell? ⟨w.heap.size, 0, none⟩ = some (.int .u64 (fo s0_0 10 0 0).2.1) := (by have := HL.out; rw [hw]; exact (af (iR (jt (bz HO.out n) 0 _) (by simp; omega) _) 0).trans rfl); have HW := Aside0.mk hw; clear hw)
        go_ret
        have hw := HW.out
        have hlt := HL.out
        refine ⟨rfl, ⟨?_, HE.out⟩, ?_, ?_⟩ <;> rw [hw]
        · exact fO (iR (bz HG.out n) (by simp; omega) _) 0 _ rfl
        · exact bM (bM (aG (aH (aH HB.out _) _) n) HZ.out) HE.out
        · exact bE.kL (AB (gi (eK (eK (bE.refl _ _ _) _) _) n) (Nat.le_refl _) _) 0 _
      · rw [if_neg hR] at h
        simp only [Option.some.injEq, Prod.mk.injEq] at h
        obtain ⟨rfl, rfl, rfl⟩ := h
        have ho : (w.alloc (.cells #[.int .u64 0] 60)).heap[w.heap.size]? = some (.cells #[.int .u64 0] 60 (0, 0)) := eJ w _
        have ho1 := bx ho (.cells #[.pointer (some ⟨g, 0, none⟩)] 65)
        have hg2 := bx hg1 (.cells #[.pointer (some ⟨g, 0, none⟩)] 65)
        have hb2 := eJ (w.alloc (.cells #[.int .u64 0] 60)) (.cells #[.pointer (some ⟨g, 0, none⟩)] 65)
        have hsA : (w.alloc (.cells #[.int .u64 0] 60)).heap.size = w.heap.size + 1 := by simp
        have hnum := fun n => Bp s0_0 ⟨w.heap.size, 0, none⟩ (((w.alloc (.cells #[.int .u64 0] 60)).alloc (.cells #[.pointer (some ⟨g, 0, none⟩)] 65)).drewN n) 0 hs ((af (bz ho1 n) 0).trans rfl) (aj (bz ho1 n) 0)
        have HC := Aside0.mk (uO g s0_0 104 (fo s0_0 10 0 0).1 #[.pointer (some ⟨w.heap.size, 0, none⟩)] (w.alloc (.cells #[.int .u64 0] 60))
          (fun w' => ∃ n, w' = ((w.alloc (.cells #[.int .u64 0] 60)).alloc (.cells #[.pointer (some ⟨g, 0, none⟩)] 65)).drewN n) hg1
          (fun n => (hnum n).mono (by
            rintro e w' (⟨hne, _⟩ | ⟨_, rfl, rfl⟩)
            · exact absurd hne hR
            · exact ⟨rfl, n, rfl⟩))
          (Bq _) (by
            rintro w' ⟨n, rfl⟩
            exact ⟨bz hg2 n, bz hb2 n⟩))
        have HB := Aside0.mk hB
        have HG := Aside0.mk hg2
        have HO := Aside0.mk ho1
        have HL := Aside0.mk hlt
        have HE := Aside0.mk hge
        have HZ := Aside0.mk hsz
        clear hB hg hg1 ho ho1 hg2 hb2 hnum hsA hlt hge hsz
        go_enter Tryz.func41, Tryz.ntmps41
        go_wp2_with (go_at_call 103; refine HC.out.mono ?_; rintro e w' ⟨rfl, w1, m, ⟨n, rfl⟩, hw⟩; have hcell : w'.cell? ⟨w.heap.size, 0, none⟩ = some (.int .u64 0) := (by have := HL.out; rw [hw]; exact (af (iR (bz (bz HO.out n) m) (by simp; omega) _) 0).trans rfl); have HW := Aside0.mk hw; clear hw)
        go_ret
        have hw := HW.out
        have hlt := HL.out
        refine ⟨rfl, ⟨?_, HE.out⟩, ?_, ?_⟩ <;> rw [hw]
        · exact fO (bz (bz HG.out n) m) 1 _ rfl
        · exact bM (aG (aG (aH (aH HB.out _) _) n) m) HE.out
        · exact bE.kL (gi (gi (eK (eK (bE.refl _ _ _) _) _) n) m) 1 _
    · rw [if_neg hk] at h
      simp only [Option.some.injEq, Prod.mk.injEq] at h
      obtain ⟨rfl, rfl, rfl⟩ := h
      have HB := Aside0.mk hB
      have HG := Aside0.mk hg
      have HG1 := Aside0.mk hg1
      have HC := Aside0.mk (zj g s0_0 104 s0_1 #[.pointer (some ⟨w.heap.size, 0, none⟩)] _ hk hg1)
      clear hB hg hg1
      go_enter Tryz.func41, Tryz.ntmps41
      go_wp2_with (go_at_call 103; refine HC.out.mono ?_; rintro e w' ⟨rfl, rfl⟩)
      go_ret
      refine ⟨by simp, ⟨?_, hge⟩, ?_, ?_⟩
      · exact bx HG1.out _
      · exact aH (aH HB.out _) _
      · exact eK (eK (bE.refl _ _ _) _) _
  · rw [if_neg hs] at h
    cases h
theorem jz (g : Nat) (s : ByteArray) (k : Int) (w : World) (hI : w.heap[g]? = some (.cells #[.string s, .int .i64 k] 135 (0, 0))) :
    Calls Tryz.prog 42 #[.pointer (some ⟨g, 0, none⟩)] w fun e w' => e = .returned (.int .i64 k) ∧ w' = w := by
 have h1 := m6 hI; go_enter Tryz.func42, Tryz.ntmps42
 go_wp2
 go_ret
 exact ⟨rfl, rfl⟩
def bh.f (s : ByteArray) (k : Int) : Option (Int × ByteArray × Int) := some (k, s, k)
theorem bh.calls (g : Nat) (s0_0 : ByteArray) (s0_1 : Int) (r1 : Int) (r2 : ByteArray) (r3 : Int) (w0 w : World) (hI : ag w0 w g s0_0 s0_1) (hB : Below w0.heap.size w0 w) (h : bh.f s0_0 s0_1 = some (r1, r2, r3)) :
    Calls Tryz.prog 42 #[.pointer (some ⟨g, 0, none⟩)] w fun e w' => e = .returned (.int .i64 r1) ∧ ag w0 w' g r2 r3 ∧ Below w0.heap.size w0 w' ∧ bE w w' g none := by
 simp only [bh.f, Option.some.injEq, Prod.mk.injEq] at h; obtain ⟨rfl, rfl, rfl⟩ := h; refine (jz g s0_0 s0_1 w hI.1).mono ?_; rintro e w' ⟨rfl, rfl⟩; exact ⟨rfl, hI, hB, bE.refl _ _ _⟩
theorem sw (g : Nat) (s : ByteArray) (k : Int) (w : World) (hI : w.heap[g]? = some (.cells #[.string s, .int .i64 k] 135 (0, 0))) :
    Calls Tryz.prog 43 #[.pointer (some ⟨g, 0, none⟩)] w fun e w' => e = .returned (.int .i64 s.size) ∧ w' = w := by
 have h1 := oL hI; go_enter Tryz.func43, Tryz.ntmps43
 go_wp2
 go_ret
 exact ⟨rfl, rfl⟩
def aV.f (s : ByteArray) (k : Int) : Option (Int × ByteArray × Int) := some ((s.size : Int), s, k)
theorem aV.calls (g : Nat) (s0_0 : ByteArray) (s0_1 : Int) (r1 : Int) (r2 : ByteArray) (r3 : Int) (w0 w : World) (hI : ag w0 w g s0_0 s0_1) (hB : Below w0.heap.size w0 w) (h : aV.f s0_0 s0_1 = some (r1, r2, r3)) :
    Calls Tryz.prog 43 #[.pointer (some ⟨g, 0, none⟩)] w fun e w' => e = .returned (.int .i64 r1) ∧ ag w0 w' g r2 r3 ∧ Below w0.heap.size w0 w' ∧ bE w w' g none := by
 simp only [aV.f, Option.some.injEq, Prod.mk.injEq] at h; obtain ⟨rfl, rfl, rfl⟩ := h; refine (sw g s0_0 s0_1 w hI.1).mono ?_; rintro e w' ⟨rfl, rfl⟩; exact ⟨rfl, hI, hB, bE.refl _ _ _⟩
def dw.f (s : ByteArray) (k : Int) (a1 : Int) : Option (ByteArray × ByteArray × Int) :=
  if k = 0 then (if 0 ≤ a1 ∧ a1 ≤ (s.size : Int) then some (s.extract 0 a1.toNat, s.extract a1.toNat s.size, 0) else some ((⟨#[]⟩ : ByteArray), s, 2)) else some ((⟨#[]⟩ : ByteArray), s, k)
theorem zk (args : Array Value) (W : World) : (callFunc 106 args).run Tryz.prog W = .ok (.enter 106 args) W := by
 simp [go_sem, Tryz.func106]
set_option maxHeartbeats 8000000 in
set_option maxRecDepth 100000 in
theorem dw.calls (g : Nat) (s0_0 : ByteArray) (s0_1 : Int) (a1 : Int) (r1 : ByteArray) (r2 : ByteArray) (r3 : Int) (w0 w : World) (hI : ag w0 w g s0_0 s0_1) (hB : Below w0.heap.size w0 w) (h : dw.f s0_0 s0_1 a1 = some (r1, r2, r3)) :
    Calls Tryz.prog 44 #[.pointer (some ⟨g, 0, none⟩), .int .i64 a1] w fun e w' => e = .returned (.string r1) ∧ ag w0 w' g r2 r3 ∧ Below w0.heap.size w0 w' ∧ bE w w' g none := by
  have hmf : ∀ (fn : Fn) (first cap : Array Value) (w : World), (Instr.makeFunc fn first cap).run Tryz.prog w = .ok (.func fn first cap) w := fun _ _ _ _ => rfl
  obtain ⟨hg, hge⟩ := hI
  have hlt := cY hg
  have hg1 := bx (bx hg (.cells #[.int .i64 a1] 3)) (.cells #[.string ⟨#[]⟩] 9)
  have hsz := hB.size
  have hn := bx (eJ w (.cells #[.int .i64 a1] 3)) (.cells #[.string ⟨#[]⟩] 9)
  have ho : ((w.alloc (.cells #[.int .i64 a1] 3)).alloc (.cells #[.string ⟨#[]⟩] 9)).heap[w.heap.size + 1]? = some (.cells #[.string ⟨#[]⟩] 9 (0, 0)) := by
    have := eJ (w.alloc (.cells #[.int .i64 a1] 3)) (.cells #[.string ⟨#[]⟩] 9)
    simpa using this
  have hsA : ((w.alloc (.cells #[.int .i64 a1] 3)).alloc (.cells #[.string ⟨#[]⟩] 9)).heap.size = w.heap.size + 2 := by simp
  have HBA := aH (aH hB (.cells #[.int .i64 a1] 3)) (.cells #[.string ⟨#[]⟩] 9)
  have HKA := eK (eK (bE.refl w g none) (.cells #[.int .i64 a1] 3)) (.cells #[.string ⟨#[]⟩] 9)
  obtain ⟨wA, hwA⟩ : ∃ wA, (w.alloc (.cells #[.int .i64 a1] 3)).alloc (.cells #[.string ⟨#[]⟩] 9) = wA := ⟨_, rfl⟩
  rw [hwA] at hg1 hn ho hsA HBA HKA
  have ho1 := bx ho (.cells #[.pointer (some ⟨g, 0, none⟩)] 65)
  have hn1 := bx hn (.cells #[.pointer (some ⟨g, 0, none⟩)] 65)
  have hg2 := bx hg1 (.cells #[.pointer (some ⟨g, 0, none⟩)] 65)
  have hb2 := eJ wA (.cells #[.pointer (some ⟨g, 0, none⟩)] 65)
  have HWA := Aside0.mk hwA
  have HG := Aside0.mk hg2
  have HO := Aside0.mk ho1
  have HL := Aside0.mk hlt
  have HE := Aside0.mk hge
  have HZ := Aside0.mk hsz
  unfold dw.f at h
  by_cases hk : s0_1 = 0
  · subst hk
    rw [if_pos rfl] at h
    by_cases hR : 0 ≤ a1 ∧ a1 ≤ (s0_0.size : Int)
    · rw [if_pos hR] at h
      simp only [Option.some.injEq, Prod.mk.injEq] at h
      obtain ⟨rfl, rfl, rfl⟩ := h
      have HC := Aside0.mk (Bo g s0_0 (s0_0.extract a1.toNat s0_0.size) 106 #[.pointer (some ⟨w.heap.size, 0, none⟩), .pointer (some ⟨w.heap.size + 1, 0, none⟩)] wA
        (fun w' => ∃ n, w' = (((wA.alloc (.cells #[.pointer (some ⟨g, 0, none⟩)] 65)).drewN n).setCell ⟨w.heap.size + 1, 0, none⟩ (.string (s0_0.extract 0 a1.toNat)))) hg1
        (fun n => (Ho s0_0 _ a1 ⟨w.heap.size, 0, none⟩ ⟨w.heap.size + 1, 0, none⟩ ((wA.alloc (.cells #[.pointer (some ⟨g, 0, none⟩)] 65)).drewN n) ((af (bz hn1 n) 0).trans rfl) ((af (bz ho1 n) 0).trans rfl) (aj (bz ho1 n) 0) (by simp) hR.1 hR.2).mono (by
          rintro e w' ⟨rfl, rfl⟩
          exact ⟨rfl, n, rfl⟩))
        (zk _) (by
          rintro w' ⟨n, rfl⟩
          exact ⟨iR (bz hg2 n) (by simp; omega) _, iR (bz hb2 n) (by simp; omega) _⟩))
      clear hB hg hg1 ho ho1 hg2 hb2 hlt hge hsz hn hn1 hsA hR
      subst hwA
      go_enter Tryz.func44, Tryz.ntmps44
      go_wp2_with (go_at_call 103; refine HC.out.mono ?_; rintro e w' ⟨rfl, w1, ⟨n, rfl⟩, hw⟩; have hcell : w'.cell? ⟨w.heap.size + 1, 0, none⟩ = some (.string (s0_0.extract 0 a1.toNat)) := (by have := HL.out; rw [hw]; exact (af (iR (jt (bz HO.out n) 0 _) (by simp; omega) _) 0).trans rfl); have HW := Aside0.mk hw; clear hw)
      go_ret
      have hw := HW.out
      have hlt := HL.out
      have hz := HZ.out
      refine ⟨rfl, ⟨?_, HE.out⟩, ?_, ?_⟩ <;> rw [hw]
      · exact fO (iR (bz HG.out n) (by simp; omega) _) 0 _ rfl
      · exact bM (bM (aG (aH HBA _) n) (by omega)) HE.out
      · exact bE.kL (AB (gi (eK HKA _) n) (by simp) _) 0 _
    · rw [if_neg hR] at h
      simp only [Option.some.injEq, Prod.mk.injEq] at h
      obtain ⟨rfl, rfl, rfl⟩ := h
      have HC := Aside0.mk (uO g s0_0 106 2 #[.pointer (some ⟨w.heap.size, 0, none⟩), .pointer (some ⟨w.heap.size + 1, 0, none⟩)] wA
        (fun w' => ∃ n, w' = (wA.alloc (.cells #[.pointer (some ⟨g, 0, none⟩)] 65)).drewN n) hg1
        (fun n => (Hp s0_0 ⟨#[]⟩ a1 ⟨w.heap.size, 0, none⟩ ⟨w.heap.size + 1, 0, none⟩ ((wA.alloc (.cells #[.pointer (some ⟨g, 0, none⟩)] 65)).drewN n) ((af (bz hn1 n) 0).trans rfl) (by omega)).mono (by
          rintro e w' ⟨rfl, rfl⟩
          exact ⟨rfl, n, rfl⟩))
        (zk _) (by
          rintro w' ⟨n, rfl⟩
          exact ⟨bz hg2 n, bz hb2 n⟩))
      clear hB hg hg1 ho ho1 hg2 hb2 hlt hge hsz hn hn1 hsA hR
      subst hwA
      go_enter Tryz.func44, Tryz.ntmps44
      go_wp2_with (go_at_call 103; refine HC.out.mono ?_; rintro e w' ⟨rfl, w1, m, ⟨n, rfl⟩, hw⟩; have hcell : w'.cell? ⟨w.heap.size + 1, 0, none⟩ = some (.string ⟨#[]⟩) := (by have := HL.out; rw [hw]; exact (af (iR (bz (bz HO.out n) m) (by simp; omega) _) 0).trans rfl); have HW := Aside0.mk hw; clear hw)
      go_ret
      have hw := HW.out
      have hlt := HL.out
      refine ⟨rfl, ⟨?_, HE.out⟩, ?_, ?_⟩ <;> rw [hw]
      · exact fO (bz (bz HG.out n) m) 1 _ rfl
      · exact bM (aG (aG (aH HBA _) n) m) HE.out
      · exact bE.kL (gi (gi (eK HKA _) n) m) 1 _
  · rw [if_neg hk] at h
    simp only [Option.some.injEq, Prod.mk.injEq] at h
    obtain ⟨rfl, rfl, rfl⟩ := h
    have HC := Aside0.mk (zj g s0_0 106 s0_1 #[.pointer (some ⟨w.heap.size, 0, none⟩), .pointer (some ⟨w.heap.size + 1, 0, none⟩)] wA hk hg1)
    clear hB hg hg1 ho ho1 hg2 hb2 hlt hge hsz hn hn1 hsA
    subst hwA
    go_enter Tryz.func44, Tryz.ntmps44
    go_wp2_with (go_at_call 103; refine HC.out.mono ?_; rintro e w' ⟨rfl, hw⟩; have hcell : w'.cell? ⟨w.heap.size + 1, 0, none⟩ = some (.string ⟨#[]⟩) := (by rw [hw]; exact (af HO.out 0).trans rfl); have HW := Aside0.mk hw; clear hw)
    go_ret
    have hw := HW.out
    refine ⟨rfl, ⟨?_, HE.out⟩, ?_, ?_⟩ <;> rw [hw]
    · exact HG.out
    · exact aH HBA _
    · exact eK HKA _
def dg.f (a0 : ByteArray) : Option (ByteArray × ByteArray × Int) := (eD.f a0).bind fun Jp => ((aJ.f Jp.1 Jp.2).bind fun zS => ((bh.f zS.2.1 zS.2.2).bind fun wE => (if wE.1 = 0 then ((aV.f wE.2.1 wE.2.2).bind fun Et => (if zS.1 > (IntKind.u64.wrap (Et.1)) then (some ((⟨#[]⟩ : ByteArray), (⟨#[]⟩ : ByteArray), 2)) else ((dw.f Et.2.1 Et.2.2 (wrap64 (zS.1))).bind fun Eu => ((aV.f Eu.2.1 Eu.2.2).bind fun Ew => (if 0 ≤ (wrap64 ((a0.size : Int) - Ew.1)) then (if (wrap64 ((a0.size : Int) - Ew.1)) ≤ (a0.size : Int) then (some (Eu.1, a0.extract ((wrap64 ((a0.size : Int) - Ew.1)) : Int).toNat a0.size, 0)) else (none)) else (none)))))) else ((bh.f wE.2.1 wE.2.2).bind fun OL => (some ((⟨#[]⟩ : ByteArray), (⟨#[]⟩ : ByteArray), OL.1))))))
def dg.T8 : Bool × List (List Nat × List Nat) := (true, [([], []), ([], []), ([], []), ([2], [2]), ([], []), ([4], [4]), ([3, 5], [3, 5]), ([1, 6], [1, 6]), ([0, 5, 0], [0]), ([7, 8, 0, 1, 2, 3, 4, 5, 6, 7, 8], [7]), ([9, 0, 1, 2, 3, 4, 5, 6, 7, 8, 9], [])])
def dg.B8 : List Nat := [0, 0, 0, 4, 0, 16, 60, 126, 49, 511, 1023]
theorem dg.Hq : gU .any (opsOf Tryz.f13 8) = dg.T8 := by kernel_rfl
theorem dg.Ex : iT dg.T8.2 dg.B8 = true := by kernel_rfl
set_option maxHeartbeats 8000000 in
set_option maxRecDepth 100000 in
theorem dg.calls (a0 : ByteArray) (r1 : ByteArray) (r2 : ByteArray) (r3 : Int) (w : World) (h : dg.f a0 = some (r1, r2, r3)) :
 Calls Tryz.prog 13 #[.string a0] w fun e w' => e = .returned (.tuple #[.string r1, .string r2, .int .i64 r3]) ∧ Below w.heap.size w w' := by
 have HB := Aside0.mk (Below.refl w.heap.size w); have H := h; unfold dg.f at H; clear h; obtain ⟨⟨t206, t207⟩, A2, H⟩ := bnz H; (try dsimp only at H); obtain ⟨⟨t209, t210, t211⟩, A3, H⟩ := bnz H; (try dsimp only at H); obtain ⟨⟨t212, t213, t214⟩, A4, H⟩ := bnz H; (try dsimp only at H)
 by_cases c5 : t212 = 0
 ·
  rw [if_pos c5] at H; have fk : (t212 == 0) = true := beq_iff_eq.mpr c5; have pZ : (t212 != 0) = false := bne_eq_false_iff_eq.mpr c5; clear c5; obtain ⟨⟨t215, t216, t217⟩, A6, H⟩ := bnz H; (try dsimp only at H)
  by_cases c7 : t209 > (IntKind.u64.wrap (t215))
  ·
   rw [if_pos c7] at H; have o6 : decide ((IntKind.u64.wrap (t215)) < t209) = true := decide_eq_true c7; clear c7; simp only [Option.some.injEq, Prod.mk.injEq] at H; obtain ⟨rfl, rfl, rfl⟩ := H; go_enter Tryz.func13, Tryz.ntmps13
   go_wp2_with (first | ((with_reducible refine ak (f := 40) rfl ?_); refine aD (some 9) rfl rfl Tryz.func40 (by kernel_rfl) rfl #[.string a0] rfl mz ?_; (with_reducible refine (eD.calls a0 t206 t207 w _ ?side1 A2.out).mono ?_); (case side1 => exact hz HB.out); rintro e w8 ⟨g208, rfl, hi, hb, hb2⟩; refine ⟨_, rfl, ?_⟩; replace HB := am (hb); have fe := am (hi); (try clear hb); (try clear hb2); (try clear hk); (try clear hi)) | ((with_reducible refine ak (f := 41) rfl ?_); refine aD (some 11) rfl rfl Tryz.func41 (by kernel_rfl) rfl #[.pointer (some ⟨g208, 0, none⟩)] rfl mz ?_; (with_reducible refine (aJ.calls g208 t206 t207 t209 t210 t211 w _ ?side1 ?side2 A3.out).mono ?_); (case side1 => exact ag.lz fe.out); (case side2 => exact hz1 HB.out (ag.ge fe.out)); rintro e w9 ⟨rfl, hi, hb, hk⟩; refine ⟨_, rfl, ?_⟩; replace HB := am (hb); replace fe := am (hi); (try clear hb); (try clear hb2); (try clear hk); (try clear hi)) | ((with_reducible refine ak (f := 42) rfl ?_); refine aD (some 14) rfl rfl Tryz.func42 (by kernel_rfl) rfl #[.pointer (some ⟨g208, 0, none⟩)] rfl mz ?_; (with_reducible refine (bh.calls g208 t210 t211 t212 t213 t214 w _ ?side1 ?side2 A4.out).mono ?_); (case side1 => exact ag.lz fe.out); (case side2 => exact hz1 HB.out (ag.ge fe.out)); rintro e w10 ⟨rfl, hi, hb, hk⟩; refine ⟨_, rfl, ?_⟩; replace HB := am (hb); replace fe := am (hi); (try clear hb); (try clear hb2); (try clear hk); (try clear hi)) | ((with_reducible refine ak (f := 43) rfl ?_); refine aD (some 21) rfl rfl Tryz.func43 (by kernel_rfl) rfl #[.pointer (some ⟨g208, 0, none⟩)] rfl mz ?_; (with_reducible refine (aV.calls g208 t213 t214 t215 t216 t217 w _ ?side1 ?side2 A6.out).mono ?_); (case side1 => exact ag.lz fe.out); (case side2 => exact hz1 HB.out (ag.ge fe.out)); rintro e w11 ⟨rfl, hi, hb, hk⟩; refine ⟨_, rfl, ?_⟩; replace HB := am (hb); replace fe := am (hi); (try clear hb); (try clear hb2); (try clear hk); (try clear hi)))
   go_ret3
   exact ⟨ez, hz1 HB.out (ag.ge fe.out)⟩
  ·
   rw [if_neg c7] at H; have o6 : decide ((IntKind.u64.wrap (t215)) < t209) = false := decide_eq_false c7; clear c7; obtain ⟨⟨t218, t219, t220⟩, A12, H⟩ := bnz H; (try dsimp only at H); obtain ⟨⟨t221, t222, t223⟩, A13, H⟩ := bnz H; (try dsimp only at H); obtain ⟨Hr, m7⟩ : ∃ j_ : Int, (wrap64 ((a0.size : Int) - t221)) = j_ := ⟨_, rfl⟩
   (first | rw [m7] at H | simp only [m7] at H)
   (try rw [m7] at A2); (try rw [m7] at A3); (try rw [m7] at A4); (try rw [m7] at A6); (try rw [m7] at A12); (try rw [m7] at A13); have hji14w : (IntKind.i64.wrap ((a0.size : Int) - t221)) = Hr := (bN _).trans m7; obtain ⟨c15, H⟩ := ifz H; have OM := eq_true c15; have OO : decide (0 ≤ (Hr)) = true := decide_eq_true c15; clear c15; obtain ⟨c16, H⟩ := ifz H; have Ey := eq_true c16; have Ez : decide ((Hr) ≤ (a0.size : Int)) = true := decide_eq_true c16; clear c16; simp only [Option.some.injEq, Prod.mk.injEq] at H; obtain ⟨rfl, rfl, rfl⟩ := H; go_enter Tryz.func13, Tryz.ntmps13
   try go_wp2_with (first | ((with_reducible refine ak (f := 40) rfl ?_); refine aD (some 9) rfl rfl Tryz.func40 (by kernel_rfl) rfl #[.string a0] rfl mz ?_; (with_reducible refine (eD.calls a0 t206 t207 w _ ?side1 A2.out).mono ?_); (case side1 => exact hz HB.out); rintro e w17 ⟨g208, rfl, hi, hb, hb2⟩; refine ⟨_, rfl, ?_⟩; replace HB := am (hb); have fe := am (hi); (try clear hb); (try clear hb2); (try clear hk); (try clear hi)) | ((with_reducible refine ak (f := 41) rfl ?_); refine aD (some 11) rfl rfl Tryz.func41 (by kernel_rfl) rfl #[.pointer (some ⟨g208, 0, none⟩)] rfl mz ?_; (with_reducible refine (aJ.calls g208 t206 t207 t209 t210 t211 w _ ?side1 ?side2 A3.out).mono ?_); (case side1 => exact ag.lz fe.out); (case side2 => exact hz1 HB.out (ag.ge fe.out)); rintro e w18 ⟨rfl, hi, hb, hk⟩; refine ⟨_, rfl, ?_⟩; replace HB := am (hb); replace fe := am (hi); (try clear hb); (try clear hb2); (try clear hk); (try clear hi)) | ((with_reducible refine ak (f := 42) rfl ?_); refine aD (some 14) rfl rfl Tryz.func42 (by kernel_rfl) rfl #[.pointer (some ⟨g208, 0, none⟩)] rfl mz ?_; (with_reducible refine (bh.calls g208 t210 t211 t212 t213 t214 w _ ?side1 ?side2 A4.out).mono ?_); (case side1 => exact ag.lz fe.out); (case side2 => exact hz1 HB.out (ag.ge fe.out)); rintro e w19 ⟨rfl, hi, hb, hk⟩; refine ⟨_, rfl, ?_⟩; replace HB := am (hb); replace fe := am (hi); (try clear hb); (try clear hb2); (try clear hk); (try clear hi)) | ((with_reducible refine ak (f := 43) rfl ?_); refine aD (some 21) rfl rfl Tryz.func43 (by kernel_rfl) rfl #[.pointer (some ⟨g208, 0, none⟩)] rfl mz ?_; (with_reducible refine (aV.calls g208 t213 t214 t215 t216 t217 w _ ?side1 ?side2 A6.out).mono ?_); (case side1 => exact ag.lz fe.out); (case side2 => exact hz1 HB.out (ag.ge fe.out)); rintro e w20 ⟨rfl, hi, hb, hk⟩; refine ⟨_, rfl, ?_⟩; replace HB := am (hb); replace fe := am (hi); (try clear hb); (try clear hb2); (try clear hk); (try clear hi)) | ((with_reducible refine ak (f := 44) rfl ?_); refine aD (some 27) rfl rfl Tryz.func44 (by kernel_rfl) rfl #[.pointer (some ⟨g208, 0, none⟩), .int .i64 (wrap64 (t209))] rfl mz ?_; (with_reducible refine (dw.calls g208 t216 t217 (wrap64 (t209)) t218 t219 t220 w _ ?side1 ?side2 A12.out).mono ?_); (case side1 => exact ag.lz fe.out); (case side2 => exact hz1 HB.out (ag.ge fe.out)); rintro e w21 ⟨rfl, hi, hb, hk⟩; refine ⟨_, rfl, ?_⟩; replace HB := am (hb); replace fe := am (hi); (try clear hb); (try clear hb2); (try clear hk); (try clear hi)))
   replace fe := am (ag.drew fe.out); replace HB := am (bw HB.out); refine iZ (n := 11) (S := fun w' => True) (ds := []) (dn 11 0) (by kernel_rfl) rfl (by kernel_rfl) trivial (fun hHeld => ?_); refine gR dg.Hq dg.Ex (fun HT_ HW_ => ?_); generalize w21.drew = w22 at fe HB hHeld ⊢; refine pz 0 28 (dn 11 1) rfl rfl HT_ ?_; refine pz 1 29 (dn 11 3) rfl rfl HT_ ?_; refine pz 2 30 (dn 11 7) rfl rfl HT_ ?_; refine pz 3 31 (dn 11 15) rfl rfl HT_ ?_; refine pz 4 32 (dn 11 31) rfl rfl HT_ ?_; refine iB (i := 5) (N := some 33) (dn 11 63) rfl rfl (fP HT_.out (by kernel_rfl)) (by decide) (fun K hK => ?_); refine mS Tryz.func43 (by kernel_rfl) rfl #[.pointer (some ⟨g208, 0, none⟩)] (by rfl) rfl rfl mz ?_
   with_reducible refine (aV.calls g208 t219 t220 t221 t222 t223 w _ ?side1 ?side2 A13.out).mono ?_
   (case side1 => exact ag.lz fe.out); (case side2 => exact hz1 HB.out (ag.ge fe.out)); rintro e w23 ⟨rfl, hi, hb, hk⟩; refine ⟨_, rfl, ?_⟩; replace HB := am (hb); replace fe := am (hi); (try clear hb); (try clear hb2); (try clear hk); (try clear hi); refine hK.out _ _ trivial (fun hHeld => ?_); clear hK K; refine dH (a' := ?_) ?_ ?_; rotate_left
   ·
    show Act.put _ (some 33) _ = _; simp only [Act.put, List.setIfInBounds_toArray, List.set_cons_zero, List.set_cons_succ, bN, bR]
    rfl
   refine pz 6 34 (dn 11 127) rfl rfl HT_ ?_; refine pz 7 35 (dn 11 255) rfl rfl HT_ ?_; refine pz 8 2 (dn 11 511) rfl rfl HT_ ?_; refine pz 9 3 (dn 11 1023) rfl rfl HT_ ?_; refine pz 10 4 (dn 11 2047) rfl rfl HT_ ?_; refine jF (iS HT_.out (by kernel_rfl)) ?_
   try go_wp2
   go_ret3
   (try simp only [m7]); exact ⟨by first | rfl | (simp [gX, gY] <;> rfl) | (simp only [← m7]; first | rfl | (simp [gX, gY] <;> rfl)) | (simp [*, gX, gY] <;> rfl), hz1 HB.out (ag.ge fe.out)⟩
 ·
  rw [if_neg c5] at H; have fk : (t212 == 0) = false := beq_eq_false_iff_ne.mpr c5; have pZ : (t212 != 0) = true := bne_iff_ne.mpr c5; obtain ⟨⟨t224, t225, t226⟩, A24, H⟩ := bnz H; (try dsimp only at H); simp only [Option.some.injEq, Prod.mk.injEq] at H; obtain ⟨rfl, rfl, rfl⟩ := H; go_enter Tryz.func13, Tryz.ntmps13
  go_wp2_with (first | ((with_reducible refine ak (f := 40) rfl ?_); refine aD (some 9) rfl rfl Tryz.func40 (by kernel_rfl) rfl #[.string a0] rfl mz ?_; (with_reducible refine (eD.calls a0 t206 t207 w _ ?side1 A2.out).mono ?_); (case side1 => exact hz HB.out); rintro e w25 ⟨g208, rfl, hi, hb, hb2⟩; refine ⟨_, rfl, ?_⟩; replace HB := am (hb); have fe := am (hi); (try clear hb); (try clear hb2); (try clear hk); (try clear hi)) | ((with_reducible refine ak (f := 41) rfl ?_); refine aD (some 11) rfl rfl Tryz.func41 (by kernel_rfl) rfl #[.pointer (some ⟨g208, 0, none⟩)] rfl mz ?_; (with_reducible refine (aJ.calls g208 t206 t207 t209 t210 t211 w _ ?side1 ?side2 A3.out).mono ?_); (case side1 => exact ag.lz fe.out); (case side2 => exact hz1 HB.out (ag.ge fe.out)); rintro e w26 ⟨rfl, hi, hb, hk⟩; refine ⟨_, rfl, ?_⟩; replace HB := am (hb); replace fe := am (hi); (try clear hb); (try clear hb2); (try clear hk); (try clear hi)) | ((with_reducible refine ak (f := 42) rfl ?_); refine aD (some 14) rfl rfl Tryz.func42 (by kernel_rfl) rfl #[.pointer (some ⟨g208, 0, none⟩)] rfl mz ?_; (with_reducible refine (bh.calls g208 t210 t211 t212 t213 t214 w _ ?side1 ?side2 A4.out).mono ?_); (case side1 => exact ag.lz fe.out); (case side2 => exact hz1 HB.out (ag.ge fe.out)); rintro e w27 ⟨rfl, hi, hb, hk⟩; refine ⟨_, rfl, ?_⟩; replace HB := am (hb); replace fe := am (hi); (try clear hb); (try clear hb2); (try clear hk); (try clear hi)) | ((with_reducible refine ak (f := 42) rfl ?_); refine aD (some 17) rfl rfl Tryz.func42 (by kernel_rfl) rfl #[.pointer (some ⟨g208, 0, none⟩)] rfl mz ?_; (with_reducible refine (bh.calls g208 t213 t214 t224 t225 t226 w _ ?side1 ?side2 A24.out).mono ?_); (case side1 => exact ag.lz fe.out); (case side2 => exact hz1 HB.out (ag.ge fe.out)); rintro e w28 ⟨rfl, hi, hb, hk⟩; refine ⟨_, rfl, ?_⟩; replace HB := am (hb); replace fe := am (hi); (try clear hb); (try clear hb2); (try clear hk); (try clear hi)))
  go_ret3
  exact ⟨ez, hz1 HB.out (ag.ge fe.out)⟩
end Go.Proofs.YtfgnjndfnijjoaaGreat.Print
end
section
namespace Go.Proofs.YtfgnjndfnijjoaaGreat.Print
open Go.RowKit Go.Proofs.YtfgnjndfnijjoaaGreatW.PrintWords Go.Proofs.YtfgnjndfnijjoaaGreatW.PrintLast Go.Proofs.YtfgnjndfnijjoaaGreatW.PrintMore
attribute [local go_sem] dJ dK eF eG cZ dc dL dM
attribute [local go_sem] bH
set_option linter.unusedVariables false
set_option linter.unusedSimpArgs false
theorem mE (w : World) : Calls Tryz.prog 66 #[.int .i64 0] w fun e w' => e = .returned (.tuple #[]) ∧ w' = w := by
 go_enter Tryz.func66, Tryz.ntmps66
 go_wp2
 go_end0
 exact ⟨rfl, rfl⟩
def iI (k : Int) : List PanicEntry := [{ v := .iface 145 (.int .i64 k), recovered := false }]
set_option maxRecDepth 100000 in
theorem jy (k : Int) (w : World) (hk : k ≠ 0) : Calls Tryz.prog 66 #[.int .i64 k] w fun e w' => e = .panicked (iI k) ∧ w' = w := by
 have hkb : (k == 0) = false := beq_eq_false_iff_ne.mpr hk; have hkc : (k != 0) = true := bne_iff_ne.mpr hk; clear hk; go_enter Tryz.func66, Tryz.ntmps66
 go_wp2
 exact ⟨rfl, rfl, rfl⟩
theorem CF (p : Addr) (w : World) :
    CallsD Tryz.prog 118 #[.pointer (some p)] .returning w fun e u' w' => e = .returned (.tuple #[]) ∧ u' = .returning ∧ w' = w := by
 refine callsD_of_wpS Tryz.func118 rfl fun c₀ cs hu => ?_
 apply wpS_seq
 apply wpS_region
 simp [wpOpsS, go_sem, recoverD, hu, Tryz.ntmps118, Exit.thenS]
 apply wpS_seq
 apply wpS_region
 simp [wpOpsS, go_sem, Exit.thenS]
 refine wpS_cond (t := false) (by simp [Act.eval, Array.replicate]) ?_; simp only [Bool.false_eq_true, if_false]; refine wpS_of_wp (wp_skip ?_)
 cases c₀
 simp_all [bodyPostS, results, Tryz.results118]
set_option maxRecDepth 100000 in
theorem zD (g : Nat) (k x : Int) (older : List PanicEntry) (w : World) (hI : w.heap[g]? = some (.cells #[.int .i64 x] 27 (0, 0))) :
    CallsD Tryz.prog 118 #[.pointer (some ⟨g, 0, none⟩)] (.panicking ({ v := .iface 145 (.int .i64 k), recovered := false } :: older)) w fun e u' w' => e = .returned (.tuple #[]) ∧ u' = .panicking ({ v := .iface 145 (.int .i64 k), recovered := true } :: older) ∧ ∃ n, w' = (w.drewN n).setCell ⟨g, 0, none⟩ (.int .i64 k) := by
 refine callsD_of_wpS Tryz.func118 rfl fun c₀ cs hu => ?_
 apply wpS_seq
 apply wpS_region
 simp [wpOpsS, go_sem, recoverD, hu, Tryz.ntmps118, Exit.thenS]
 apply wpS_seq
 apply wpS_region
 simp [wpOpsS, go_sem, Exit.thenS]
 refine wpS_cond (t := true) (by simp [Act.eval, Array.replicate]) ?_; simp only [if_true]; refine wpS_of_wp ?_; have h1 : w.cell? ⟨g, 0, none⟩ = some (.int .i64 x) := (af hI 0).trans rfl; have h2 := aj hI 0; have hta : ∀ (v : Value) (W : World), (Instr.typeAssert (.iface 145 v) 20 145 false).run Tryz.prog W = .ok v W := fun v W => by rfl
 clear hI
 go_wp2
 cases c₀
 simp_all [bodyPostS, results, Tryz.results118]
 exact ⟨0, rfl⟩
set_option maxHeartbeats 8000000 in
set_option maxRecDepth 100000 in
theorem wF (c : Nat) (caps : Array Value) (w : World) (R : World → Prop)
    (hc : Calls Tryz.prog c caps (w.alloc (.cells #[.int .i64 0] 27)) fun e w' => e = .returned (.tuple #[]) ∧ R w')
    (hcf : ∀ W, (callFunc c caps).run Tryz.prog W = .ok (.enter c caps) W)
    (hR : ∀ w', R w' → w'.heap[w.heap.size]? = some (.cells #[.int .i64 0] 27 (0, 0))) :
    Calls Tryz.prog 54 #[.func (.func c) #[] caps] w fun e w' => e = .returned (.int .i64 0) ∧ ∃ w1, R w1 ∧ w' = w1.setCell ⟨w.heap.size, 0, none⟩ (.int .i64 0) := by
 have hmf : ∀ (fn : Fn) (first cap : Array Value) (w : World), (Instr.makeFunc fn first cap).run Tryz.prog w = .ok (.func fn first cap) w := fun _ _ _ _ => rfl
 have HC := Aside0.mk hc; have HR := Aside0.mk hR; clear hc hR
 go_enter_defers Tryz.func54, Tryz.ntmps54
 go_wp2_with fail
 refine HC.out.mono ?_; rintro e w1 ⟨rfl, hq⟩; have hz := HR.out _ hq; have h0 : w1.cell? ⟨w.heap.size, 0, none⟩ = some (.int .i64 0) := (af hz 0).trans rfl; have h1 := aj hz 0; have h2 : (w1.setCell ⟨w.heap.size, 0, none⟩ (.int .i64 0)).cell? ⟨w.heap.size, 0, none⟩ = some (.int .i64 0) := (af (jt hz 0 _) 0).trans rfl; have HQ := Aside0.mk hq; clear hz hq
 go_wp2
 refine leaves_cons (f := 118) (args := #[.pointer (some ⟨w.heap.size, 0, none⟩)]) (by simp) (by simp [go_sem]) ?_; refine (CF ⟨w.heap.size, 0, none⟩ _).mono ?_; rintro e u' w'' ⟨rfl, rfl, rfl⟩
 simp [Leaves, settle, results, Tryz.results54, go_sem, h2]
 exact ⟨w1, HQ.out, rfl⟩
set_option maxHeartbeats 8000000 in
set_option maxRecDepth 100000 in
theorem sX (c : Nat) (k : Int) (caps : Array Value) (w : World) (R : World → Prop)
    (hc : Calls Tryz.prog c caps (w.alloc (.cells #[.int .i64 0] 27)) fun e w' => e = .panicked (iI k) ∧ R w')
    (hcf : ∀ W, (callFunc c caps).run Tryz.prog W = .ok (.enter c caps) W)
    (hR : ∀ w', R w' → w'.heap[w.heap.size]? = some (.cells #[.int .i64 0] 27 (0, 0))) :
    Calls Tryz.prog 54 #[.func (.func c) #[] caps] w fun e w' => e = .returned (.int .i64 k) ∧ ∃ w1 n, R w1 ∧ w' = (World.drewN w1 n).setCell ⟨w.heap.size, 0, none⟩ (.int .i64 k) := by
 have hmf : ∀ (fn : Fn) (first cap : Array Value) (w : World), (Instr.makeFunc fn first cap).run Tryz.prog w = .ok (.func fn first cap) w := fun _ _ _ _ => rfl
 have HC := Aside0.mk hc; have HR := Aside0.mk hR; clear hc hR
 go_enter_defers Tryz.func54, Tryz.ntmps54
 go_wp2_with fail
 refine HC.out.mono ?_; rintro e w1 ⟨rfl, hq⟩; have hz := HR.out _ hq; have HQ := Aside0.mk hq; clear hq; refine leaves_cons (f := 118) (args := #[.pointer (some ⟨w.heap.size, 0, none⟩)]) (by simp) (by simp [go_sem]) ?_; refine (zD w.heap.size k 0 [] _ hz).mono ?_; rintro e u' w'' ⟨rfl, rfl, n, rfl⟩; have h2 : ((w1.drewN n).setCell ⟨w.heap.size, 0, none⟩ (.int .i64 k)).cell? ⟨w.heap.size, 0, none⟩ = some (.int .i64 k) := (af (jt (bz hz n) 0 _) 0).trans rfl
 simp [Leaves, settle, results, Tryz.results54, go_sem, h2]
 exact ⟨w1, HQ.out, n, rfl⟩
theorem qK (s a b : ByteArray) (w : World) (h : dg.f s = some (a, b, 0)) : Calls Tryz.prog 57 #[.string s] w fun e w' => e = .returned (.tuple #[.string a, .string b]) ∧ Below w.heap.size w w' := by
 have A1 := Aside0.mk h; clear h; go_enter Tryz.func57, Tryz.ntmps57
 go_wp2_with (first | (go_at_call 13; (with_reducible refine (dg.calls s a b 0 _ A1.out).mono ?_); rintro e_ w1 ⟨rfl, hb⟩; have HB := Aside0.mk hb; clear hb) | (go_at_call 66; refine (mE _).mono ?_; rintro e_ w2 ⟨rfl, hw2⟩; subst hw2))
 go_ret2
 exact ⟨rfl, HB.out⟩
theorem yf (s a b : ByteArray) (k : Int) (w : World) (h : dg.f s = some (a, b, k)) (hk : k ≠ 0) : Calls Tryz.prog 57 #[.string s] w fun e w' => e = .panicked (iI k) ∧ Below w.heap.size w w' := by
 have A1 := Aside0.mk h; have HK := Aside0.mk hk; clear h hk; go_enter Tryz.func57, Tryz.ntmps57
 go_wp2_with (first | (go_at_call 13; (with_reducible refine (dg.calls s a b k _ A1.out).mono ?_); rintro e_ w1 ⟨rfl, hb⟩; have HB := Aside0.mk hb; clear hb) | (go_at_call 66; refine (jy k _ HK.out).mono ?_; rintro e_ w2 ⟨rfl, hw2⟩; subst hw2))
 exact ⟨rfl, rfl, HB.out⟩
theorem qa (v : Value) (w : World) : Calls Tryz.prog 58 #[v, .int .i64 0] w fun e w' => e = .returned v ∧ w' = w := by
 go_enter Tryz.func58, Tryz.ntmps58
 go_wp2_with (go_at_call 66; refine (mE _).mono ?_; rintro e_ w2 ⟨rfl, hw2⟩; subst hw2)
 go_ret
 exact ⟨rfl, rfl⟩
theorem qb (v : Value) (k : Int) (w : World) (hk : k ≠ 0) : Calls Tryz.prog 58 #[v, .int .i64 k] w fun e w' => e = .panicked (iI k) ∧ w' = w := by
 have HK := Aside0.mk hk; clear hk; go_enter Tryz.func58, Tryz.ntmps58
 go_wp2_with (go_at_call 66; refine (jy k _ HK.out).mono ?_; rintro e_ w2 ⟨rfl, hw2⟩; subst hw2)
 exact ⟨rfl, rfl, rfl⟩
theorem CG (v : Value) (w : World) : Calls Tryz.prog 60 #[v, .int .i64 0] w fun e w' => e = .returned v ∧ w' = w := by
 go_enter Tryz.func60, Tryz.ntmps60
 go_wp2_with (go_at_call 66; refine (mE _).mono ?_; rintro e_ w2 ⟨rfl, hw2⟩; subst hw2)
 go_ret
 exact ⟨rfl, rfl⟩
theorem CH (v : Value) (k : Int) (w : World) (hk : k ≠ 0) : Calls Tryz.prog 60 #[v, .int .i64 k] w fun e w' => e = .panicked (iI k) ∧ w' = w := by
 have HK := Aside0.mk hk; clear hk; go_enter Tryz.func60, Tryz.ntmps60
 go_wp2_with (go_at_call 66; refine (jy k _ HK.out).mono ?_; rintro e_ w2 ⟨rfl, hw2⟩; subst hw2)
 exact ⟨rfl, rfl, rfl⟩
theorem CI (v : Value) (w : World) : Calls Tryz.prog 62 #[v, .int .i64 0] w fun e w' => e = .returned v ∧ w' = w := by
 go_enter Tryz.func62, Tryz.ntmps62
 go_wp2_with (go_at_call 66; refine (mE _).mono ?_; rintro e_ w2 ⟨rfl, hw2⟩; subst hw2)
 go_ret
 exact ⟨rfl, rfl⟩
theorem CJ (v : Value) (k : Int) (w : World) (hk : k ≠ 0) : Calls Tryz.prog 62 #[v, .int .i64 k] w fun e w' => e = .panicked (iI k) ∧ w' = w := by
 have HK := Aside0.mk hk; clear hk; go_enter Tryz.func62, Tryz.ntmps62
 go_wp2_with (go_at_call 66; refine (jy k _ HK.out).mono ?_; rintro e_ w2 ⟨rfl, hw2⟩; subst hw2)
 exact ⟨rfl, rfl, rfl⟩
theorem uP (v : Value) (w : World) : Calls Tryz.prog 64 #[v, .int .i64 0] w fun e w' => e = .returned v ∧ w' = w := by
 go_enter Tryz.func64, Tryz.ntmps64
 go_wp2_with (go_at_call 66; refine (mE _).mono ?_; rintro e_ w2 ⟨rfl, hw2⟩; subst hw2)
 go_ret
 exact ⟨rfl, rfl⟩
theorem uQ (v : Value) (k : Int) (w : World) (hk : k ≠ 0) : Calls Tryz.prog 64 #[v, .int .i64 k] w fun e w' => e = .panicked (iI k) ∧ w' = w := by
 have HK := Aside0.mk hk; clear hk; go_enter Tryz.func64, Tryz.ntmps64
 go_wp2_with (go_at_call 66; refine (jy k _ HK.out).mono ?_; rintro e_ w2 ⟨rfl, hw2⟩; subst hw2)
 exact ⟨rfl, rfl, rfl⟩
theorem tH (v : Value) (w : World) : Calls Tryz.prog 73 #[v, .int .i64 0] w fun e w' => e = .returned v ∧ w' = w := by
 go_enter Tryz.func73, Tryz.ntmps73
 go_wp2_with (go_at_call 66; refine (mE _).mono ?_; rintro e_ w2 ⟨rfl, hw2⟩; subst hw2)
 go_ret
 exact ⟨rfl, rfl⟩
theorem Br (v : Value) (k : Int) (w : World) (hk : k ≠ 0) : Calls Tryz.prog 73 #[v, .int .i64 k] w fun e w' => e = .panicked (iI k) ∧ w' = w := by
 have HK := Aside0.mk hk; clear hk; go_enter Tryz.func73, Tryz.ntmps73
 go_wp2_with (go_at_call 66; refine (jy k _ HK.out).mono ?_; rintro e_ w2 ⟨rfl, hw2⟩; subst hw2)
 exact ⟨rfl, rfl, rfl⟩
def gy.f (l0 : List Bool) (a1 : Int) : Option (List Bool) := if l0.length = 1 then (if 0 ≤ a1 ∧ a1 ≤ 1000000 then some (List.replicate a1.toNat (fW false l0 0)) else none) else none
set_option maxHeartbeats 8000000 in
set_option maxRecDepth 100000 in
theorem gy.calls (A0 : Option Addr) (c0 : Nat) (l0 : List Bool) (a1 : Int) (r : List Bool) (w : World) (hr0 : Kd.C Kd.bool w A0 l0.length l0) (hc0 : l0.length ≤ c0) (h : gy.f l0 a1 = some r) :
    Calls Tryz.prog 169 #[.slice A0 l0.length c0, .int .i64 a1] w fun e w' => ∃ v0_ : Value, e = .returned (v0_) ∧ Kd.R Kd.bool 4 w' w.heap.size (fun _ => True) v0_ r ∧ Below w.heap.size w w' := by
 unfold gy.f at h
 by_cases hl : l0.length = 1
 case neg => rw [if_neg hl] at h; exact absurd h (by simp)
 rw [if_pos hl] at h
 by_cases ha : 0 ≤ a1 ∧ a1 ≤ 1000000
 case neg => rw [if_neg ha] at h; exact absurd h (by simp)
 rw [if_pos ha] at h; obtain rfl := Option.some.inj h; clear h; have c1 : decide (a1 < 0) = false := decide_eq_false (by omega)
 have hm : ∀ w : World, Calls Tryz.prog 176 #[.int .u64 1, .int .u64 a1] w fun e w' => e = .returned (.tuple #[.int .u64 0, .int .u64 a1]) ∧ w' = w := fun w => by
  have m := Tryz.bits_Mul 1 a1.toNat (by omega) (by omega) w; rw [show 1 * a1.toNat / 18446744073709551616 = 0 by omega, show 1 * a1.toNat % 18446744073709551616 = a1.toNat by omega] at m; rw [Int.toNat_of_nonneg ha.1] at m; exact m
 have c2 : decide (9223372036854775807 < a1) = false := decide_eq_false (by omega); obtain ⟨i0, hi, hz0, hz1, hz2⟩ := info_parts wh; obtain ⟨N, hN⟩ : ∃ N, N = a1.toNat := ⟨_, rfl⟩
 have hmk : ∀ w, (Instr.makeSlice 74 (.int .i64 a1) (.int .i64 a1)).run Tryz.prog w = .ok (.slice (some ⟨w.heap.size, 0, none⟩) N N) (w.alloc (.cells (List.replicate N (Value.bool false)).toArray 4)) := fun w => by
  have h := run_make (P := Tryz.prog) w 74 4 i0 _ Tryz.underlying74 hi hz0 .i64 .i64 a1 a1 ha.1 (Int.le_refl _) (by rw [hz2]; omega) (by omega); rw [h, ← hN, hz1]
  congr 2
  congr 1
  apply Array.ext
  · simp [madeCells]
  ·
   intro j h1 h2
   simp [madeCells, Value.cells, Nat.mod_one]
 have hN' := Aside0.mk hN; have HMK := Aside0.mk hmk; clear hmk; have hszE : (Tryz.prog.info? 4).map (·.size) = some 1 := by rw [hi]; simp [hz1]
 obtain ⟨X, rfl⟩ := List.length_eq_one_iff.mp hl
 obtain ⟨A, hA⟩ : ∃ A, A0 = some A ∧ w.cell? A = some (.bool X) := by
  obtain ⟨ad, e, hx⟩ := Kd.nA hr0 0 (by omega) (by simp); exact ⟨ad, e, by simpa [Addr.add, fW] using hx⟩
 obtain ⟨rfl, hcell⟩ := hA; clear hN hl; have hu74 := Tryz.underlying74
 have hAlt : A.block < w.heap.size := by
  rcases Nat.lt_or_ge A.block w.heap.size with h' | h'
  · exact h'
  · simp [World.cell?, Array.getElem?_eq_none h'] at hcell
 have hcp : ∀ w3, Below w.heap.size w w3 → ∀ (j : Nat) v, (List.replicate (Nat.min 1 N) (Value.bool X))[j]? = some v → w3.cell? (A.add j) = some v := fun w3 hb j v hv => by
  rw [List.getElem?_replicate] at hv
  split at hv
  ·
   rename_i hj
   obtain rfl : j = 0 := by have h_ : Nat.min 1 N ≤ 1 := Nat.min_le_left 1 N; omega
   obtain rfl := Option.some.inj hv; rw [show A.add 0 = A by simp [Addr.add], hb.cell hAlt]; exact hcell
  · cases hv
 show Calls Tryz.prog 169 #[.slice (some A) 1 c0, .int .i64 a1] w _; go_enter Tryz.func169, Tryz.ntmps169
 go_wp2_with (first | (go_at_call 176; (with_reducible refine (hm _).mono ?_); rintro e w2 ⟨rfl, rfl⟩) | ((with_reducible refine bG (N := 30) rfl ?_); (refine Build.rY rfl (D := 30) rfl (cs := (List.replicate N (Value.bool false)).toArray) (t := 4) N N ?hr ?_); (case hr => (have h_ := HMK.out w2); first | (go_simp; done) | (go_simp; rfl) | (go_simp; rw [h_]; rfl)); intro g hg w3 hblk hb; subst hg) | ((with_reducible refine bG (N := 33) rfl ?_); (refine wpList_copy_splice rfl (.tmp 31) (.tmp 32) 74 74 rfl 4 Tryz.underlying74 hszE _ _ _ _ _ _ rfl rfl w2.heap.size 0 (List.replicate N (.bool false)) 4 (by first | exact hblk | simpa using hblk) (List.replicate (Nat.min 1 N) (.bool X)) (by simp) ?hpos ?hfit ?h1 w2.heap.size w2 hb (Nat.le_refl _) ?_); (case hpos => intro h0_; exact ⟨rfl, A, rfl, fun j v hv => hcp w3 hb j v hv⟩); (case hfit => simp only [List.length_replicate, Nat.zero_add]; exact Nat.min_le_right 1 N); (case h1 => intro v hv; rw [List.eq_of_mem_replicate hv]; rfl); intro w4 hblk4 hb4))
 have HBK := Aside0.mk hblk4; have HB4 := Aside0.mk hb4; clear hblk4 hb4 hcp hblk hb; obtain ⟨Z, hZ⟩ : ∃ Z, Z = Value.bool false := ⟨_, rfl⟩
 go_loopg [8] (N + 1) (fun kq v8 w' => ∃ n9 : Int, v8 = .int .i64 n9 ∧ Aside0 (0 ≤ n9 ∧ n9 ≤ N ∧ (N : Int) + 1 ≤ kq + n9 ∧ (0 < N → 1 ≤ n9)) ∧ Aside0 (w'.heap[w2.heap.size]? = some (.cells (List.replicate n9.toNat (Value.bool X) ++ List.replicate (N - n9.toNat) (Value.bool false)).toArray 4 (0, 0))) ∧ Aside0 (Below w2.heap.size w2 w'))
 case atStart =>
  refine ⟨((Nat.min 1 N : Nat) : Int), (by first | rfl | (simp; done) | (simp [goInt]; done)), ⟨by have h1_ : Nat.min 1 N ≤ N := Nat.min_le_right 1 N; have h2_ : 0 < N → Nat.min 1 N = 1 := fun h => Nat.min_eq_left h; omega⟩, ⟨?_⟩, HB4⟩; refine Eq.trans HBK.out ?_
  congr 2
  simp [splice]
 case round =>
  clear HBK HB4; obtain ⟨n9, rfl, HK, HBK, HB⟩ := hrel
  cases gk with
  | zero => have := HK.out; exact absurd this (by omega)
  | succ k1 =>
   by_cases hi9 : n9 < (N : Int)
   ·
    have d5 : decide (n9 < (N : Int)) = true := decide_eq_true hi9; have hk9 := HK.out; have p9 : 0 ≤ n9 := by omega
    have q9 : n9 ≤ (N : Int) := by omega
    have hne := eq_false (show ¬ N = n9.toNat by omega); have hm1 : Nat.min n9.toNat (N - n9.toNat) ≤ n9.toNat := Nat.min_le_left _ _; have hm2 : Nat.min n9.toNat (N - n9.toNat) ≤ N - n9.toNat := Nat.min_le_right _ _; have hm3 : 0 < Nat.min n9.toNat (N - n9.toNat) := by rw [show ∀ a b, Nat.min a b = min a b from fun _ _ => rfl]; omega
    have hsrc : ∀ (j : Nat) v, (List.replicate (Nat.min n9.toNat (N - n9.toNat)) (Value.bool X))[j]? = some v → wr.cell? (Addr.add ⟨w2.heap.size, 0, none⟩ j) = some v := fun j v hv => by
     rw [List.getElem?_replicate] at hv
     split at hv
     ·
      rename_i hj
      obtain rfl := Option.some.inj hv; rw [show Addr.add ⟨w2.heap.size, 0, none⟩ j = ⟨w2.heap.size, j, none⟩ by unfold Addr.add; split <;> simp_all]; unfold World.cell?; simp only [HBK.out]; have hjn : j < n9.toNat := by omega
      simp [List.getElem?_append_left, hjn]
     · cases hv
    obtain ⟨M, hM⟩ : ∃ M, M = Nat.min n9.toNat (N - n9.toNat) := ⟨_, rfl⟩; rw [← hM] at hm1 hm2 hm3 hsrc; have hM' := Aside0.mk hM; clear hM
    go_wp2
    go_region_law (refine step_copy_splice rfl (.tmp 41) (.tmp 44) 74 74 rfl 4 Tryz.underlying74 hszE (some ⟨w2.heap.size, n9.toNat, none⟩) (some ⟨w2.heap.size, 0, none⟩) (N - n9.toNat) (N - n9.toNat) n9.toNat N (by simp [Act.eval, Act.put, hne]) (by simp [Act.eval, Act.put]) w2.heap.size n9.toNat (List.replicate n9.toNat (Value.bool X) ++ List.replicate (N - n9.toNat) (Value.bool false)) 4 HBK.out (List.replicate M (Value.bool X)) (by rw [List.length_replicate]; exact hM'.out) (fun _ => ⟨rfl, _, rfl, hsrc⟩) (by simp only [List.length_append, List.length_replicate]; omega) (fun v hv => by rw [List.eq_of_mem_replicate hv]; rfl) w2.heap.size w2 (by first | exact HB.out | exact bw HB.out) (Nat.le_refl _) ?_; intro w4 hg4 hb4)
    have hw : IntKind.i64.wrap (n9 + (M : Int)) = n9 + (M : Int) := by rw [IntKind.wrap_i64]; have := hN'.out; omega
    go_wp2
    go_roundg k1
    case measure => omega
    case rel =>
     refine ⟨n9 + (M : Int), (by first | rfl | (simp; done) | (simp [hw]; done) | (simp [goInt, hw]; done)), ⟨by omega⟩, ⟨Eq.trans hg4 ?_⟩, ⟨hb4⟩⟩; have e1 : (n9 + (M : Int)).toNat = n9.toNat + M := by omega
     rw [e1]
     congr 2
     unfold splice; rw [List.length_replicate, List.take_left' (List.length_replicate ..), ← List.drop_drop, List.drop_left' (List.length_replicate ..), List.drop_replicate, ← List.append_assoc, List.replicate_append_replicate, show N - n9.toNat - M = N - (n9.toNat + M) by omega]
   ·
    have d5 : decide (n9 < (N : Int)) = false := decide_eq_false hi9; have hk9 := HK.out
    go_wp2
    go_ret
    have hn9 : n9.toNat = N := by omega
    refine ⟨_, rfl, Kd.rU (enc := Value.bool) (h1 := fun _ => rfl) ?_ (fun _ _ => trivial), HB.out⟩; have hb9 := HBK.out; rw [hn9, Nat.sub_self] at hb9; have hNN := hN'.out; refine ⟨by simp [encs], .inr ⟨w2.heap.size, N, _, by simp [← hNN], Nat.le_refl _, hb9, by simp [← hNN], by unfold maxLen; omega, by simp, by simp [encs, ← hNN, fW]⟩⟩
def bY.l0 : Nat → List Int → Int → Bool → Int → List Bool → Option (List Bool × Bool)
  | 0, _, _, _, _, _ => none
  | k + 1, n, most, b, i, out => if i < (n.length : Int) then (if 0 ≤ i then (if rd n i < mn i 1 then some ([], false) else if rd n i > wrap64 (most - (out.length : Int)) then some ([], false) else ((gy.f [!b] (rd n i)).bind fun t => if out.length + t.length < 17592186044416 then bY.l0 k n most (!b) (wrap64 (i + 1)) (out ++ t) else none)) else none) else some (out, true)
def bY.f (k : Nat) (l0 : List Int) (a1 : Int) : Option (List Bool × Bool) := if a1 < 0 then some ([], false) else if l0.length = 1 ∧ rd l0 0 = 0 then some ([], false) else bY.l0 k l0 a1 true 0 []
theorem bY.cF : ∀ k n most b i out, LeO (bY.l0 k n most b i out) (bY.l0 (k + 1) n most b i out)
  | 0, _, _, _, _, _ => fun r h => by simp [bY.l0] at h
  | k + 1, n, most, b, i, out => by
    have ih := bY.cF k
    unfold bY.l0
    exact LeO.ite (LeO.ite (LeO.ite (LeO.refl _) (LeO.ite (LeO.refl _) (LeO.bind (LeO.refl _) fun t => LeO.ite (ih _ _ _ _ _) (LeO.refl _)))) (LeO.refl _)) (LeO.refl _)
theorem bY.mono : ∀ a0 a1 k, LeO (bY.f k a0 a1) (bY.f (k + 1) a0 a1) := fun a0 a1 k => LeO.ite (LeO.refl _) (LeO.ite (LeO.refl _) (bY.cF k _ _ _ _ _))
set_option maxHeartbeats 8000000 in
set_option maxRecDepth 100000 in
theorem bY.calls (k : Nat) (A0 : Option Addr) (c0 : Nat) (l0 : List Int) (a1 : Int) (r1 : List Bool) (r2 : Bool) (w : World) (hr0 : Kd.C (Kd.int .i64) w A0 l0.length l0) (hc0 : l0.length ≤ c0) (h : bY.f k l0 a1 = some (r1, r2)) :
    Calls Tryz.prog 135 #[.slice A0 l0.length c0, .int .i64 a1] w fun e w' => ∃ v0_ : Value, e = .returned (.tuple #[v0_, .bool r2]) ∧ Kd.R Kd.bool 4 w' w.heap.size (fun _ => True) v0_ r1 ∧ Below w.heap.size w w' := by
  have HR0 := Aside0.mk hr0
  have HC0 := Aside0.mk hc0
  have HB0 := Aside0.mk (Below.refl w.heap.size w)
  have H := h
  clear hr0 hc0 h
  unfold bY.f at H
  have HH := Aside0.mk H
  clear H
  go_enter Tryz.func135, Tryz.ntmps135
  go_upto_region 1 with (fail)
  go_cut [22] (fun v22 wc => ∃ x : Bool, v22 = .bool x ∧ Aside0 ((x = true ∧ r1 = [] ∧ r2 = false) ∨ (x = false ∧ bY.l0 k l0 a1 true 0 [] = some (r1, r2))) ∧ Aside0 (Below w.heap.size w wc))
  case first =>
    have H := HH.out
    clear HH
    by_cases c1 : a1 < 0
    · rw [if_pos c1] at H
      have c1b : decide (a1 < 0) = true := decide_eq_true c1
      clear c1
      simp only [Option.some.injEq, Prod.mk.injEq] at H
      obtain ⟨rfl, rfl⟩ := H
      go_wp2
      go_meet
      case rel => exact ⟨true, rfl, ⟨.inl (by simp)⟩, HB0⟩
    · rw [if_neg c1] at H
      have c1b : decide (a1 < 0) = false := decide_eq_false c1
      clear c1
      by_cases c2 : l0.length = 1
      · have c2b : (l0.length == 1) = true := by simp [c2]
        have c2c : ((l0.length : Int) == 1) = true := by simp [c2]
        have p0 : (0 : Int) < (l0.length : Int) := by omega
        obtain ⟨ad, e0, hx⟩ := Kd.jE HR0.out 0 (by omega) p0
        have hx' : w.cell? ad = some (.int .i64 (rd l0 0)) := by simpa [Addr.add] using hx
        subst e0
        have p0b := eq_true (show 0 < l0.length by omega)
        clear hx p0
        by_cases c3 : rd l0 0 = 0
        · rw [if_pos ⟨c2, c3⟩] at H
          simp only [Option.some.injEq, Prod.mk.injEq] at H
          obtain ⟨rfl, rfl⟩ := H
          have c3b : (rd l0 0 == 0) = true := beq_iff_eq.mpr c3
          clear c2 c3
          go_wp2
          go_meet
          case rel => exact ⟨true, rfl, ⟨.inl (by simp)⟩, HB0⟩
        · rw [if_neg (fun h => c3 h.2)] at H
          have c3b : (rd l0 0 == 0) = false := beq_eq_false_iff_ne.mpr c3
          clear c2 c3
          have H' := Aside0.mk H
          clear H
          go_wp2
          go_meet
          case rel => exact ⟨false, rfl, ⟨.inr ⟨rfl, H'.out⟩⟩, HB0⟩
      · rw [if_neg (fun h => c2 h.1)] at H
        have c2b : (l0.length == 1) = false := beq_eq_false_iff_ne.mpr c2
        have c2c : ((l0.length : Int) == 1) = false := beq_eq_false_iff_ne.mpr (by omega)
        clear c2
        have H' := Aside0.mk H
        clear H
        go_wp2
        go_meet
        case rel => exact ⟨false, rfl, ⟨.inr ⟨rfl, H'.out⟩⟩, HB0⟩
  case rest =>
    clear HH HB0
    obtain ⟨x, rfl, HX, HB⟩ := hcut
    cases x with
    | true =>
      obtain ⟨rfl, rfl⟩ : r1 = [] ∧ r2 = false := by
        rcases HX.out with ⟨_, h1, h2⟩ | ⟨h, _⟩
        · exact ⟨h1, h2⟩
        · cases h
      go_wp2
      go_ret2
      exact ⟨_, rfl, Kd.iE _ _ _ _ _, HB.out⟩
    | false =>
      have H' := Aside0.mk (show bY.l0 k l0 a1 true 0 [] = some (r1, r2) by
        rcases HX.out with ⟨h, _⟩ | ⟨_, h⟩
        · cases h
        · exact h)
      clear HX
      go_wp2_with (go_at_call 158; (with_reducible refine (oD _).mono ?_); rintro e w2 ⟨rfl, hw2⟩; have HG2 := Aside0.mk (show w2.heap[wc.heap.size]? = some (.cells #[.bool true] 4 (0, 0)) from by rw [hw2]; exact eJ wc _); have HB2 := Aside0.mk (show Below w.heap.size w w2 from by rw [hw2]; exact aH HB.out _); have HGE := Aside0.mk (ai HB.out); clear hw2 HB)
      go_loopg [6, 26] k (fun kq v6 v26 w' => ∃ (i : Int) (b : Bool) (out : List Bool), v26 = .int .i64 i ∧ Aside0 (bY.l0 kq l0 a1 b i out = some (r1, r2)) ∧ Aside0 (kq ≤ k) ∧ Aside0 (Kd.R Kd.bool 4 w' w.heap.size (fun k_ => k_ ≠ wc.heap.size) v6 out) ∧ Aside0 (w'.heap[wc.heap.size]? = some (.cells #[.bool b] 4 (0, 0))) ∧ Aside0 (Below w.heap.size w w'))
      case atStart => exact ⟨0, true, [], by simp, H', ⟨Nat.le_refl _⟩, ⟨Kd.iE _ _ _ _ _⟩, HG2, HB2⟩
      case round =>
        clear H' HG2 HB2
        obtain ⟨i, b, out, rfl, HA, HK, HO, HG, HB⟩ := hrel
        cases gk with
        | zero => exact absurd HA.out (by simp [bY.l0])
        | succ k1 =>
          have H := HA.out
          clear HA
          simp only [bY.l0] at H
          by_cases c3 : i < (l0.length : Int)
          · rw [if_pos c3] at H
            have c3b : decide (i < (l0.length : Int)) = true := decide_eq_true c3
            by_cases c4 : 0 ≤ i
            · rw [if_pos c4] at H
              have c4b : decide (0 ≤ i) = true := decide_eq_true c4
              obtain ⟨ad, e0, hx0⟩ := Kd.jE HR0.out i c4 c3
              subst e0
              have hx := (HB.out.cell (World.block_lt_of_cell? w _ hx0)).trans hx0
              obtain ⟨m, hm⟩ : ∃ m, m = rd l0 i := ⟨_, rfl⟩
              rw [← hm] at hx H
              obtain ⟨m1, hm1⟩ : ∃ m1, mn i 1 = m1 := ⟨_, rfl⟩
              have hm1' : (if 1 < i then 1 else i) = m1 := hm1
              rw [hm1] at H
              replace c3 := eq_true c3
              replace c4 := eq_true c4
              obtain ⟨Ao, co, eo⟩ := Kd.bu HO.out
              subst eo
              clear hm hm1
              by_cases c5 : m < m1
              · rw [if_pos c5] at H
                have c5b : decide (m < m1) = true := decide_eq_true c5
                clear c5
                simp only [Option.some.injEq, Prod.mk.injEq] at H
                obtain ⟨rfl, rfl⟩ := H
                go_wp2
                go_ret2
                exact ⟨_, rfl, Kd.iE _ _ _ _ _, HB.out⟩
              · rw [if_neg c5] at H
                have c5b : decide (m < m1) = false := decide_eq_false c5
                clear c5
                by_cases c6 : m > wrap64 (a1 - (out.length : Int))
                · rw [if_pos c6] at H
                  have c6b : decide (wrap64 (a1 - (out.length : Int)) < m) = true := decide_eq_true c6
                  clear c6
                  simp only [Option.some.injEq, Prod.mk.injEq] at H
                  obtain ⟨rfl, rfl⟩ := H
                  go_wp2
                  go_ret2
                  exact ⟨_, rfl, Kd.iE _ _ _ _ _, HB.out⟩
                · rw [if_neg c6] at H
                  have c6b : decide (wrap64 (a1 - (out.length : Int)) < m) = false := decide_eq_false c6
                  clear c6
                  obtain ⟨t, MC, H⟩ := Option.bind_eq_some_iff.mp H
                  have A16 := Aside0.mk MC
                  clear MC
                  by_cases c7 : out.length + t.length < 17592186044416
                  · rw [if_pos c7] at H
                    have LM := Aside0.mk c7
                    clear c7
                    have H' := Aside0.mk H
                    clear H
                    go_wp2_with (first | (go_at_call 175; (with_reducible refine (mA wc.heap.size b _ HG.out).mono ?_); rintro e w3 ⟨rfl, hw3⟩; have n0_ := Aside0.mk (show w3.heap[wc.heap.size]? = some (.cells #[.bool !b] 4 (0, 0)) from by rw [hw3]; exact fO HG.out 0 _ rfl); have n1_ := Aside0.mk (show Kd.R Kd.bool 4 w3 w.heap.size (fun k_ => k_ ≠ wc.heap.size) (.slice Ao out.length co) out from by rw [hw3]; exact Kd.eu (p := ⟨wc.heap.size, 0, none⟩) HO.out (fun _ hk => hk) _); have n2_ := Aside0.mk (show Below w.heap.size w w3 from by rw [hw3]; exact bM HB.out HGE.out); clear HG HO HB hw3 hx; have HG := n0_; have HO := n1_; have HB := n2_; clear n0_ n1_ n2_) | ((with_reducible refine bG (N := 46) rfl ?_); refine Kd.rW Kd.bool _ 4 ?hg (N := 46) ?hd (xs := ([!b] : List Bool)) (inner := [.bool !b]) (ok := fun _ => True) (okp := fun _ => True) ?hr ?hp (fun _ hk => hk) trivial (Below.refl _ _) (Nat.le_refl _) (by simp) ?_; (case hd => rfl); (case hg => rfl); (case hr => first | (go_simp; done) | (go_simp; rfl)); (case hp => exact (bK.one (show Kd.M Kd.bool _ _ _ (!b) [.bool !b] from rfl) (bK.none _ _))); intro v273 w21 sx hb hg_ hnew_; have n0_ := Aside0.mk (Kd.gG HO.out hb); have n1_ := Aside0.mk (aX HG.out hb); have n2_ := Aside0.mk (aM HB.out hb); clear HO HG HB hg_ hnew_; have HO := n0_; have HG := n1_; have HB := n2_; clear n0_ n1_ n2_; have HL := Aside0.mk sx; clear hb sx; obtain ⟨yg, yh, Bt⟩ := Kd.bu HL.out; subst Bt) | (go_at_call 169; refine (gy.calls yg yh [!b] m t _ (Kd.av HL.out).2.2 (Kd.av HL.out).2.1 A16.out).mono ?_; rintro e w25 ⟨v276, rfl, ho0, hb⟩; have n0_ := Aside0.mk (Kd.gG HO.out hb); have n1_ := Aside0.mk (aX HG.out hb); have n2_ := Aside0.mk (aM HB.out hb); clear HO HG HB HL; have HO := n0_; have HG := n1_; have HB := n2_; clear n0_ n1_ n2_; have HL := Aside0.mk ho0; clear hb ho0; obtain ⟨Hs, Ht, Hu⟩ := Kd.bu HL.out; subst Hu) | ((with_reducible refine eB (b := .append) (xs := #[.tmp 43, .tmp 48]) rfl ?_); at_builtin; refine Kd.sV Kd.bool (w0 := w) w.heap.size rfl (.tmp 43) (.tmp 48) 74 4 (.bool false) 1 rfl Tryz.underlying74 wh rfl (by decide) (by omega) (.slice Ao out.length co) out t _ _ _ (fun k_ => k_ ≠ wc.heap.size) (fun _ => False) rfl rfl HO.out (Kd.av HL.out).2.2 (fun _ _ h => h) (fun _ h => h.elim) (fun k_ hk he_ => by have := cY HG.out; omega) HB.out (ai HB.out) (by have := LM.out; omega) ?_; intro v279 w26 ho hb hg hat; have n0_ := Aside0.mk (eL HG.out hg (fun he_ => HO.out.1 _ he_.symm rfl)); have n1_ := Aside0.mk ho; have n2_ := Aside0.mk hb; clear HO HG HB HL; have HO := n1_; have HG := n0_; have HB := n2_; clear n0_ n1_ n2_ ho hb hg hat))
                    go_roundg k1
                    case measure => have := HK.out; omega
                    case rel => exact ⟨wrap64 (i + 1), !b, out ++ t, (by first | rfl | (simp; done) | (simp [*]; done)), H', ⟨by have := HK.out; omega⟩, HO, HG, HB⟩
                  · rw [if_neg c7] at H
                    exact absurd H (by simp)
            · rw [if_neg c4] at H
              exact absurd H (by simp)
          · rw [if_neg c3] at H
            have c3b : decide (i < (l0.length : Int)) = false := decide_eq_false c3
            clear c3
            simp only [Option.some.injEq, Prod.mk.injEq] at H
            obtain ⟨rfl, rfl⟩ := H
            go_wp2
            go_ret2
            exact ⟨_, rfl, Kd.au HO.out (fun _ _ => trivial), HB.out⟩
def ck.l0 : Nat → Int → List Int → Int → ByteArray → Int → Option (List Bool × Int)
 | 0, _, _, _, _, _ => none
 | k + 1, x1, x7, x8, x232000, x232001 => (aV.f x232000 x232001).bind fun EA => (if EA.1 > 0 then ((aJ.f EA.2.1 EA.2.2).bind fun pP => ((bh.f pP.2.1 pP.2.2).bind fun ux => (if ux.1 = 0 then (if pP.1 > (IntKind.u64.wrap (x8)) then (some (([] : List Bool), 5)) else (if pP.1 = 0 then (if (x7.length : Int) > 0 then (some (([] : List Bool), 5)) else (if x7.length < 17592186044416 then (ck.l0 k x1 (x7 ++ [wrap64 (pP.1)]) (wrap64 (x8 - (wrap64 (pP.1)))) ux.2.1 ux.2.2) else (none))) else (if x7.length < 17592186044416 then (ck.l0 k x1 (x7 ++ [wrap64 (pP.1)]) (wrap64 (x8 - (wrap64 (pP.1)))) ux.2.1 ux.2.2) else (none)))) else (some (([] : List Bool), ux.1))))) else ((bY.f k x7 x1).bind fun Jq => (if Jq.2 = true then (if x8 > 0 then (some (([] : List Bool), 5)) else (some (Jq.1, 0))) else (some (([] : List Bool), 5)))))
def ck.f (k : Nat) (a0 : ByteArray) (a1 : Int) : Option (List Bool × Int) := if a1 < 0 then (some (([] : List Bool), 1)) else (if a1 > 4096 then (some (([] : List Bool), 10)) else ((eD.f a0).bind fun Jr => (ck.l0 k a1 ([] : List Int) a1 Jr.1 Jr.2)))
theorem ck.cF : ∀ k, (∀ y0 y1 y2 y3 y4, LeO (ck.l0 k y0 y1 y2 y3 y4) (ck.l0 (k + 1) y0 y1 y2 y3 y4))
 | 0 => fun _ _ _ _ _ r h => by simp [ck.l0] at h
 | k + 1 => by
  have ih0 := ck.cF k
  ·
   intro y0 y1 y2 y3 y4; unfold ck.l0
   repeat' first
   | (with_reducible exact ih0 _ _ _ _ _)
   | (with_reducible exact bY.mono _ _ _)
   | (with_reducible exact LeO.refl _)
   | (with_reducible exact LeO.none _)
   | (with_reducible refine LeO.ite ?_ ?_)
   | (with_reducible refine LeO.bind ?_ (fun _ => ?_))
theorem ck.mono : ∀ a0 a1 k, LeO (ck.f k a0 a1) (ck.f (k + 1) a0 a1) := by
 intro a0 a1 k; have ih0 := ck.cF k; unfold ck.f
 repeat' first
  | (with_reducible exact ih0 _ _ _ _ _)
  | (with_reducible exact bY.mono _ _ _)
  | (with_reducible exact LeO.refl _)
  | (with_reducible exact LeO.none _)
  | (with_reducible refine LeO.ite ?_ ?_)
  | (with_reducible refine LeO.bind ?_ (fun _ => ?_))
set_option maxHeartbeats 8000000 in
set_option maxRecDepth 100000 in
theorem ck.calls (k : Nat) (a0 : ByteArray) (a1 : Int) (r1 : List Bool) (r2 : Int) (w : World) (h : ck.f k a0 a1 = some (r1, r2)) :
 Calls Tryz.prog 74 #[.string a0, .int .i64 a1] w fun e w' => ∃ v0_ : Value, e = .returned (.tuple #[v0_, .int .i64 r2]) ∧ Kd.R Kd.bool 4 w' w.heap.size (fun _ => True) v0_ r1 ∧ Below w.heap.size w w' := by
 have HB := Aside0.mk (Below.refl w.heap.size w); have H := h; unfold ck.f at H; clear h
 by_cases c3 : a1 < 0
 ·
  rw [if_pos c3] at H; have gD := decide_eq_true c3; clear c3; simp only [Option.some.injEq, Prod.mk.injEq] at H; obtain ⟨rfl, rfl⟩ := H; go_enter Tryz.func74, Tryz.ntmps74
  go_wp2
  go_ret2
  exact ⟨_, ez, nz, hz HB.out⟩
 ·
  rw [if_neg c3] at H; have gD := decide_eq_false c3; clear c3
  by_cases c4 : a1 > 4096
  ·
   rw [if_pos c4] at H; have iC : decide (4096 < a1) = true := decide_eq_true c4; clear c4; simp only [Option.some.injEq, Prod.mk.injEq] at H; obtain ⟨rfl, rfl⟩ := H; go_enter Tryz.func74, Tryz.ntmps74
   go_wp2
   go_ret2
   exact ⟨_, ez, nz, hz HB.out⟩
  ·
   rw [if_neg c4] at H; have iC : decide (4096 < a1) = false := decide_eq_false c4; clear c4; obtain ⟨⟨t229, t230⟩, A5, H⟩ := bnz H; (try dsimp only at H); have H' := Aside0.mk H; clear H; go_enter Tryz.func74, Tryz.ntmps74
   go_wp2_with (first | ((with_reducible refine ak (f := 40) rfl ?_); refine aD (some 20) rfl rfl Tryz.func40 (by kernel_rfl) rfl #[.string a0] rfl mz ?_; (with_reducible refine (eD.calls a0 t229 t230 w _ ?side1 A5.out).mono ?_); (case side1 => exact hz HB.out); rintro e w6 ⟨g231, rfl, hi, hb, hb2⟩; refine ⟨_, rfl, ?_⟩; replace HB := am (hb); have bB := am (hi); (try clear hb); (try clear hb2); (try clear hk); (try clear hi)))
   go_loopg [7, 8] k (fun kq v7 v8 w' => ∃ (bD : List Int) (cR : Int) (fR : ByteArray) (fS : Int), v8 = .int .i64 cR ∧ Aside0 (ck.l0 kq a1 bD cR fR fS = some (r1, r2)) ∧ Aside0 (kq ≤ k) ∧ Aside0 (Kd.R (Kd.int .i64) 3 w' w.heap.size (fun _ => True) v7 bD) ∧ Aside0 (ag w w' g231 fR fS) ∧ Aside0 (Below w.heap.size w w'))
   case atStart => exact ⟨(([] : List Int)), (a1), (t229), (t230), sz, H', ⟨Nat.le_refl _⟩, ⟨nz⟩, ⟨ag.lz bB.out⟩, ⟨hz1 HB.out (ag.ge bB.out)⟩⟩
   case round =>
    clear H'
    try clear p2
    try clear c3
    try clear gD
    try clear c4
    try clear iC
    obtain ⟨bD, cR, fR, fS, rfl, HA, HK1, HO_7, bB, HB⟩ := hrel
    cases gk with
    | zero => exact absurd HA.out (by simp [ck.l0])
    | succ k1 =>
     have H := HA.out; clear HA; simp only [ck.l0] at H; obtain ⟨⟨t232, t233, t234⟩, A7, H⟩ := bnz H; (try dsimp only at H)
     by_cases c8 : t232 > 0
     ·
      rw [if_pos c8] at H; have o7 : decide (0 < t232) = true := decide_eq_true c8; clear c8; obtain ⟨⟨t239, t240, t241⟩, A9, H⟩ := bnz H; (try dsimp only at H); obtain ⟨⟨t242, t243, t244⟩, A10, H⟩ := bnz H; (try dsimp only at H)
      by_cases c11 : t242 = 0
      ·
       rw [if_pos c11] at H; have EB : (t242 == 0) = true := beq_iff_eq.mpr c11; have OP : (t242 != 0) = false := bne_eq_false_iff_eq.mpr c11; clear c11
       by_cases c12 : t239 > (IntKind.u64.wrap (cR))
       ·
        rw [if_pos c12] at H; have nR : decide ((IntKind.u64.wrap (cR)) < t239) = true := decide_eq_true c12; clear c12; simp only [Option.some.injEq, Prod.mk.injEq] at H; obtain ⟨rfl, rfl⟩ := H
        go_wp2_with (first | ((with_reducible refine ak (f := 43) rfl ?_); refine aD (some 23) rfl rfl Tryz.func43 (by kernel_rfl) rfl #[.pointer (some ⟨g231, 0, none⟩)] rfl mz ?_; (with_reducible refine (aV.calls g231 fR fS t232 t233 t234 w _ ?side1 ?side2 A7.out).mono ?_); (case side1 => exact ag.lz bB.out); (case side2 => exact hz1 HB.out (ag.ge bB.out)); rintro e w13 ⟨rfl, hi, hb, hk⟩; refine ⟨_, rfl, ?_⟩; replace HO_7 := am (Kd.au (Kd.di (ag.apart (show ag w _ g231 fR fS from ag.lz bB.out) (rz HO_7.out) (by decide)) hk (fun _ h => h.2)) (fun _ h => h.1)); replace HB := am (hb); replace bB := am (hi); (try clear hb); (try clear hb2); (try clear hk); (try clear hi)) | ((with_reducible refine ak (f := 41) rfl ?_); refine aD (some 26) rfl rfl Tryz.func41 (by kernel_rfl) rfl #[.pointer (some ⟨g231, 0, none⟩)] rfl mz ?_; (with_reducible refine (aJ.calls g231 t233 t234 t239 t240 t241 w _ ?side1 ?side2 A9.out).mono ?_); (case side1 => exact ag.lz bB.out); (case side2 => exact hz1 HB.out (ag.ge bB.out)); rintro e w14 ⟨rfl, hi, hb, hk⟩; refine ⟨_, rfl, ?_⟩; replace HO_7 := am (Kd.au (Kd.di (ag.apart (show ag w _ g231 t233 t234 from ag.lz bB.out) (rz HO_7.out) (by decide)) hk (fun _ h => h.2)) (fun _ h => h.1)); replace HB := am (hb); replace bB := am (hi); (try clear hb); (try clear hb2); (try clear hk); (try clear hi)) | ((with_reducible refine ak (f := 42) rfl ?_); refine aD (some 28) rfl rfl Tryz.func42 (by kernel_rfl) rfl #[.pointer (some ⟨g231, 0, none⟩)] rfl mz ?_; (with_reducible refine (bh.calls g231 t240 t241 t242 t243 t244 w _ ?side1 ?side2 A10.out).mono ?_); (case side1 => exact ag.lz bB.out); (case side2 => exact hz1 HB.out (ag.ge bB.out)); rintro e w15 ⟨rfl, hi, hb, hk⟩; refine ⟨_, rfl, ?_⟩; replace HO_7 := am (Kd.au (Kd.di (ag.apart (show ag w _ g231 t240 t241 from ag.lz bB.out) (rz HO_7.out) (by decide)) hk (fun _ h => h.2)) (fun _ h => h.1)); replace HB := am (hb); replace bB := am (hi); (try clear hb); (try clear hb2); (try clear hk); (try clear hi)))
        go_ret2
        exact ⟨_, ez, nz, hz1 HB.out (ag.ge bB.out)⟩
       ·
        rw [if_neg c12] at H; have nR : decide ((IntKind.u64.wrap (cR)) < t239) = false := decide_eq_false c12; clear c12
        by_cases c16 : t239 = 0
        ·
         rw [if_pos c16] at H; have Ey : (t239 == 0) = true := beq_iff_eq.mpr c16; have Ez : (t239 != 0) = false := bne_eq_false_iff_eq.mpr c16; clear c16
         by_cases c17 : (bD.length : Int) > 0
         ·
          rw [if_pos c17] at H; have oM : decide (0 < (bD.length : Int)) = true := decide_eq_true c17; have Js : decide (0 < bD.length) = true := decide_eq_true (by omega); clear c17; simp only [Option.some.injEq, Prod.mk.injEq] at H; obtain ⟨rfl, rfl⟩ := H
          go_wp2_with (first | ((with_reducible refine ak (f := 43) rfl ?_); refine aD (some 23) rfl rfl Tryz.func43 (by kernel_rfl) rfl #[.pointer (some ⟨g231, 0, none⟩)] rfl mz ?_; (with_reducible refine (aV.calls g231 fR fS t232 t233 t234 w _ ?side1 ?side2 A7.out).mono ?_); (case side1 => exact ag.lz bB.out); (case side2 => exact hz1 HB.out (ag.ge bB.out)); rintro e w18 ⟨rfl, hi, hb, hk⟩; refine ⟨_, rfl, ?_⟩; replace HO_7 := am (Kd.au (Kd.di (ag.apart (show ag w _ g231 fR fS from ag.lz bB.out) (rz HO_7.out) (by decide)) hk (fun _ h => h.2)) (fun _ h => h.1)); replace HB := am (hb); replace bB := am (hi); (try clear hb); (try clear hb2); (try clear hk); (try clear hi)) | ((with_reducible refine ak (f := 41) rfl ?_); refine aD (some 26) rfl rfl Tryz.func41 (by kernel_rfl) rfl #[.pointer (some ⟨g231, 0, none⟩)] rfl mz ?_; (with_reducible refine (aJ.calls g231 t233 t234 t239 t240 t241 w _ ?side1 ?side2 A9.out).mono ?_); (case side1 => exact ag.lz bB.out); (case side2 => exact hz1 HB.out (ag.ge bB.out)); rintro e w19 ⟨rfl, hi, hb, hk⟩; refine ⟨_, rfl, ?_⟩; replace HO_7 := am (Kd.au (Kd.di (ag.apart (show ag w _ g231 t233 t234 from ag.lz bB.out) (rz HO_7.out) (by decide)) hk (fun _ h => h.2)) (fun _ h => h.1)); replace HB := am (hb); replace bB := am (hi); (try clear hb); (try clear hb2); (try clear hk); (try clear hi)) | ((with_reducible refine ak (f := 42) rfl ?_); refine aD (some 28) rfl rfl Tryz.func42 (by kernel_rfl) rfl #[.pointer (some ⟨g231, 0, none⟩)] rfl mz ?_; (with_reducible refine (bh.calls g231 t240 t241 t242 t243 t244 w _ ?side1 ?side2 A10.out).mono ?_); (case side1 => exact ag.lz bB.out); (case side2 => exact hz1 HB.out (ag.ge bB.out)); rintro e w20 ⟨rfl, hi, hb, hk⟩; refine ⟨_, rfl, ?_⟩; replace HO_7 := am (Kd.au (Kd.di (ag.apart (show ag w _ g231 t240 t241 from ag.lz bB.out) (rz HO_7.out) (by decide)) hk (fun _ h => h.2)) (fun _ h => h.1)); replace HB := am (hb); replace bB := am (hi); (try clear hb); (try clear hb2); (try clear hk); (try clear hi); obtain ⟨U0, U1, QC⟩ := Kd.bu HO_7.out; subst QC))
          go_ret2
          exact ⟨_, ez, nz, hz1 HB.out (ag.ge bB.out)⟩
         ·
          rw [if_neg c17] at H; have oM : decide (0 < (bD.length : Int)) = false := decide_eq_false c17; have Js : decide (0 < bD.length) = false := decide_eq_false (by omega); clear c17; obtain ⟨c22, H⟩ := ifz H; have EC := Aside0.mk c22; clear c22; obtain ⟨QD, ED⟩ : ∃ y_ : List Int, y_ = (bD ++ [wrap64 (t239)]) := ⟨_, rfl⟩; (try rw [← ED] at H); have OQ := Aside0.mk ED; clear ED; have H' := Aside0.mk H; clear H
          go_wp2_with (first | ((with_reducible refine ak (f := 43) rfl ?_); refine aD (some 23) rfl rfl Tryz.func43 (by kernel_rfl) rfl #[.pointer (some ⟨g231, 0, none⟩)] rfl mz ?_; (with_reducible refine (aV.calls g231 fR fS t232 t233 t234 w _ ?side1 ?side2 A7.out).mono ?_); (case side1 => exact ag.lz bB.out); (case side2 => exact hz1 HB.out (ag.ge bB.out)); rintro e w23 ⟨rfl, hi, hb, hk⟩; refine ⟨_, rfl, ?_⟩; replace HO_7 := am (Kd.au (Kd.di (ag.apart (show ag w _ g231 fR fS from ag.lz bB.out) (rz HO_7.out) (by decide)) hk (fun _ h => h.2)) (fun _ h => h.1)); replace HB := am (hb); replace bB := am (hi); (try clear hb); (try clear hb2); (try clear hk); (try clear hi)) | ((with_reducible refine ak (f := 41) rfl ?_); refine aD (some 26) rfl rfl Tryz.func41 (by kernel_rfl) rfl #[.pointer (some ⟨g231, 0, none⟩)] rfl mz ?_; (with_reducible refine (aJ.calls g231 t233 t234 t239 t240 t241 w _ ?side1 ?side2 A9.out).mono ?_); (case side1 => exact ag.lz bB.out); (case side2 => exact hz1 HB.out (ag.ge bB.out)); rintro e w24 ⟨rfl, hi, hb, hk⟩; refine ⟨_, rfl, ?_⟩; replace HO_7 := am (Kd.au (Kd.di (ag.apart (show ag w _ g231 t233 t234 from ag.lz bB.out) (rz HO_7.out) (by decide)) hk (fun _ h => h.2)) (fun _ h => h.1)); replace HB := am (hb); replace bB := am (hi); (try clear hb); (try clear hb2); (try clear hk); (try clear hi)) | ((with_reducible refine ak (f := 42) rfl ?_); refine aD (some 28) rfl rfl Tryz.func42 (by kernel_rfl) rfl #[.pointer (some ⟨g231, 0, none⟩)] rfl mz ?_; (with_reducible refine (bh.calls g231 t240 t241 t242 t243 t244 w _ ?side1 ?side2 A10.out).mono ?_); (case side1 => exact ag.lz bB.out); (case side2 => exact hz1 HB.out (ag.ge bB.out)); rintro e w25 ⟨rfl, hi, hb, hk⟩; refine ⟨_, rfl, ?_⟩; replace HO_7 := am (Kd.au (Kd.di (ag.apart (show ag w _ g231 t240 t241 from ag.lz bB.out) (rz HO_7.out) (by decide)) hk (fun _ h => h.2)) (fun _ h => h.1)); replace HB := am (hb); replace bB := am (hi); (try clear hb); (try clear hb2); (try clear hk); (try clear hi); obtain ⟨GX, GY, GZ⟩ := Kd.bu HO_7.out; subst GZ) | ((with_reducible refine eB (b := .append) (xs := #[.tmp 49, .tmp 52]) rfl ?_); (try (refine iq (by rfl) ?_; dsimp only)); at_builtin; refine Kd.gQ (Kd.int .i64) (w0 := w) w.heap.size rfl (.tmp 49) (.tmp 52) 57 3 (.int .i64 0) 8 rfl Tryz.underlying57 info3 rfl (by decide) (by omega) (.slice GX bD.length GY) bD (wrap64 (t239)) [.int .i64 (wrap64 (t239))] (fun _ => True) (fun _ => False) rfl rfl ?aP (fun _ hk => hk.elim) ?aF ?aO ?aB ?aS ?aL ?_; (case aP => exact rfl); (case aB => exact (hz1 HB.out (ag.ge bB.out))); (case aF => exact (fun _ _ => trivial)); (case aO => exact (rz HO_7.out)); (case aS => exact (ai (hz1 HB.out (ag.ge bB.out)))); (case aL => have := EC.out; omega); intro v246 w27 ho hb hg hat; rw [← OQ.out] at ho; replace bB := am (ag.grown (ag.lz bB.out) hg (ag.nW bB.out HO_7.out (by decide))); replace HB := am (hb); have OS := am (ho); clear HO_7; clear ho hb hg hat))
          go_roundg k1
          case measure => have := HK1.out; omega
          case rel => exact ⟨(QD), (wrap64 (cR - (wrap64 (t239)))), (t243), (t244), sz, H', ⟨by have := HK1.out; omega⟩, ⟨rz OS.out⟩, ⟨ag.lz bB.out⟩, ⟨hz1 HB.out (ag.ge bB.out)⟩⟩
        ·
         rw [if_neg c16] at H; have Ey : (t239 == 0) = false := beq_eq_false_iff_ne.mpr c16; have Ez : (t239 != 0) = true := bne_iff_ne.mpr c16; obtain ⟨c28, H⟩ := ifz H; have OT := Aside0.mk c28; clear c28; obtain ⟨QE, EE⟩ : ∃ y_ : List Int, y_ = (bD ++ [wrap64 (t239)]) := ⟨_, rfl⟩; (try rw [← EE] at H); have OU := Aside0.mk EE; clear EE; have H' := Aside0.mk H; clear H
         go_wp2_with (first | ((with_reducible refine ak (f := 43) rfl ?_); refine aD (some 23) rfl rfl Tryz.func43 (by kernel_rfl) rfl #[.pointer (some ⟨g231, 0, none⟩)] rfl mz ?_; (with_reducible refine (aV.calls g231 fR fS t232 t233 t234 w _ ?side1 ?side2 A7.out).mono ?_); (case side1 => exact ag.lz bB.out); (case side2 => exact hz1 HB.out (ag.ge bB.out)); rintro e w29 ⟨rfl, hi, hb, hk⟩; refine ⟨_, rfl, ?_⟩; replace HO_7 := am (Kd.au (Kd.di (ag.apart (show ag w _ g231 fR fS from ag.lz bB.out) (rz HO_7.out) (by decide)) hk (fun _ h => h.2)) (fun _ h => h.1)); replace HB := am (hb); replace bB := am (hi); (try clear hb); (try clear hb2); (try clear hk); (try clear hi)) | ((with_reducible refine ak (f := 41) rfl ?_); refine aD (some 26) rfl rfl Tryz.func41 (by kernel_rfl) rfl #[.pointer (some ⟨g231, 0, none⟩)] rfl mz ?_; (with_reducible refine (aJ.calls g231 t233 t234 t239 t240 t241 w _ ?side1 ?side2 A9.out).mono ?_); (case side1 => exact ag.lz bB.out); (case side2 => exact hz1 HB.out (ag.ge bB.out)); rintro e w30 ⟨rfl, hi, hb, hk⟩; refine ⟨_, rfl, ?_⟩; replace HO_7 := am (Kd.au (Kd.di (ag.apart (show ag w _ g231 t233 t234 from ag.lz bB.out) (rz HO_7.out) (by decide)) hk (fun _ h => h.2)) (fun _ h => h.1)); replace HB := am (hb); replace bB := am (hi); (try clear hb); (try clear hb2); (try clear hk); (try clear hi)) | ((with_reducible refine ak (f := 42) rfl ?_); refine aD (some 28) rfl rfl Tryz.func42 (by kernel_rfl) rfl #[.pointer (some ⟨g231, 0, none⟩)] rfl mz ?_; (with_reducible refine (bh.calls g231 t240 t241 t242 t243 t244 w _ ?side1 ?side2 A10.out).mono ?_); (case side1 => exact ag.lz bB.out); (case side2 => exact hz1 HB.out (ag.ge bB.out)); rintro e w31 ⟨rfl, hi, hb, hk⟩; refine ⟨_, rfl, ?_⟩; replace HO_7 := am (Kd.au (Kd.di (ag.apart (show ag w _ g231 t240 t241 from ag.lz bB.out) (rz HO_7.out) (by decide)) hk (fun _ h => h.2)) (fun _ h => h.1)); replace HB := am (hb); replace bB := am (hi); (try clear hb); (try clear hb2); (try clear hk); (try clear hi)) | ((with_reducible refine eB (b := .append) (xs := #[.tmp 49, .tmp 52]) rfl ?_); (try (refine iq (by rfl) ?_; dsimp only)); at_builtin; refine Kd.gQ (Kd.int .i64) (w0 := w) w.heap.size rfl (.tmp 49) (.tmp 52) 57 3 (.int .i64 0) 8 rfl Tryz.underlying57 info3 rfl (by decide) (by omega) u7 bD (wrap64 (t239)) [.int .i64 (wrap64 (t239))] (fun _ => True) (fun _ => False) rfl rfl ?aP (fun _ hk => hk.elim) ?aF ?aO ?aB ?aS ?aL ?_; (case aP => exact rfl); (case aB => exact (hz1 HB.out (ag.ge bB.out))); (case aF => exact (fun _ _ => trivial)); (case aO => exact (rz HO_7.out)); (case aS => exact (ai (hz1 HB.out (ag.ge bB.out)))); (case aL => have := OT.out; omega); intro v249 w32 ho hb hg hat; rw [← OU.out] at ho; replace bB := am (ag.grown (ag.lz bB.out) hg (ag.nW bB.out HO_7.out (by decide))); replace HB := am (hb); have OV := am (ho); clear HO_7; clear ho hb hg hat))
         go_roundg k1
         case measure => have := HK1.out; omega
         case rel => exact ⟨(QE), (wrap64 (cR - (wrap64 (t239)))), (t243), (t244), sz, H', ⟨by have := HK1.out; omega⟩, ⟨rz OV.out⟩, ⟨ag.lz bB.out⟩, ⟨hz1 HB.out (ag.ge bB.out)⟩⟩
      ·
       rw [if_neg c11] at H; have EB : (t242 == 0) = false := beq_eq_false_iff_ne.mpr c11; have OP : (t242 != 0) = true := bne_iff_ne.mpr c11; simp only [Option.some.injEq, Prod.mk.injEq] at H; obtain ⟨rfl, rfl⟩ := H
       go_wp2_with (first | ((with_reducible refine ak (f := 43) rfl ?_); refine aD (some 23) rfl rfl Tryz.func43 (by kernel_rfl) rfl #[.pointer (some ⟨g231, 0, none⟩)] rfl mz ?_; (with_reducible refine (aV.calls g231 fR fS t232 t233 t234 w _ ?side1 ?side2 A7.out).mono ?_); (case side1 => exact ag.lz bB.out); (case side2 => exact hz1 HB.out (ag.ge bB.out)); rintro e w33 ⟨rfl, hi, hb, hk⟩; refine ⟨_, rfl, ?_⟩; replace HO_7 := am (Kd.au (Kd.di (ag.apart (show ag w _ g231 fR fS from ag.lz bB.out) (rz HO_7.out) (by decide)) hk (fun _ h => h.2)) (fun _ h => h.1)); replace HB := am (hb); replace bB := am (hi); (try clear hb); (try clear hb2); (try clear hk); (try clear hi)) | ((with_reducible refine ak (f := 41) rfl ?_); refine aD (some 26) rfl rfl Tryz.func41 (by kernel_rfl) rfl #[.pointer (some ⟨g231, 0, none⟩)] rfl mz ?_; (with_reducible refine (aJ.calls g231 t233 t234 t239 t240 t241 w _ ?side1 ?side2 A9.out).mono ?_); (case side1 => exact ag.lz bB.out); (case side2 => exact hz1 HB.out (ag.ge bB.out)); rintro e w34 ⟨rfl, hi, hb, hk⟩; refine ⟨_, rfl, ?_⟩; replace HO_7 := am (Kd.au (Kd.di (ag.apart (show ag w _ g231 t233 t234 from ag.lz bB.out) (rz HO_7.out) (by decide)) hk (fun _ h => h.2)) (fun _ h => h.1)); replace HB := am (hb); replace bB := am (hi); (try clear hb); (try clear hb2); (try clear hk); (try clear hi)) | ((with_reducible refine ak (f := 42) rfl ?_); refine aD (some 28) rfl rfl Tryz.func42 (by kernel_rfl) rfl #[.pointer (some ⟨g231, 0, none⟩)] rfl mz ?_; (with_reducible refine (bh.calls g231 t240 t241 t242 t243 t244 w _ ?side1 ?side2 A10.out).mono ?_); (case side1 => exact ag.lz bB.out); (case side2 => exact hz1 HB.out (ag.ge bB.out)); rintro e w35 ⟨rfl, hi, hb, hk⟩; refine ⟨_, rfl, ?_⟩; replace HO_7 := am (Kd.au (Kd.di (ag.apart (show ag w _ g231 t240 t241 from ag.lz bB.out) (rz HO_7.out) (by decide)) hk (fun _ h => h.2)) (fun _ h => h.1)); replace HB := am (hb); replace bB := am (hi); (try clear hb); (try clear hb2); (try clear hk); (try clear hi)))
       go_ret2
       exact ⟨_, ez, nz, hz1 HB.out (ag.ge bB.out)⟩
     ·
      rw [if_neg c8] at H; have o7 : decide (0 < t232) = false := decide_eq_false c8; clear c8; obtain ⟨⟨t235, t236⟩, A36, H⟩ := bnz H; (try dsimp only at H)
      by_cases c37 : t236 = true
      ·
       subst c37; rw [if_pos rfl] at H
       by_cases c38 : cR > 0
       ·
        rw [if_pos c38] at H; have OW : decide (0 < cR) = true := decide_eq_true c38; clear c38; simp only [Option.some.injEq, Prod.mk.injEq] at H; obtain ⟨rfl, rfl⟩ := H
        go_wp2_with (first | ((with_reducible refine ak (f := 43) rfl ?_); refine aD (some 23) rfl rfl Tryz.func43 (by kernel_rfl) rfl #[.pointer (some ⟨g231, 0, none⟩)] rfl mz ?_; (with_reducible refine (aV.calls g231 fR fS t232 t233 t234 w _ ?side1 ?side2 A7.out).mono ?_); (case side1 => exact ag.lz bB.out); (case side2 => exact hz1 HB.out (ag.ge bB.out)); rintro e w39 ⟨rfl, hi, hb, hk⟩; refine ⟨_, rfl, ?_⟩; replace HO_7 := am (Kd.au (Kd.di (ag.apart (show ag w _ g231 fR fS from ag.lz bB.out) (rz HO_7.out) (by decide)) hk (fun _ h => h.2)) (fun _ h => h.1)); replace HB := am (hb); replace bB := am (hi); (try clear hb); (try clear hb2); (try clear hk); (try clear hi); obtain ⟨jC, jx, tG⟩ := Kd.bu HO_7.out; subst tG) | ((with_reducible refine ak (f := 135) rfl ?_); refine aD (some 57) rfl rfl Tryz.func135 (by kernel_rfl) rfl #[.slice jC bD.length jx, .int .i64 a1] rfl mz ?_; (with_reducible refine (bY.calls k1 _ _ bD a1 t235 true _ ?side1 ?side2 A36.out).mono ?_); (case side1 => repeat (first | exact (Kd.av HO_7.out).2.2 | (with_reducible refine Kd.bO ?_ _) | (with_reducible refine Kd.bQ ?_ _) | (with_reducible refine Kd.bZ ?_))); (case side2 => exact (Kd.av HO_7.out).2.1); rintro e w41 ⟨v237, rfl, ho0, hb⟩; refine ⟨_, rfl, ?_⟩; replace HO_7 := rb HO_7 hb; have EF := am (Kd.cV ho0 (ai (hz1 HB.out (ag.ge bB.out)))); replace HB := am (aM (hz1 HB.out (ag.ge bB.out)) hb); replace bB := am (ag.below (ag.lz bB.out) hb); (try clear hb); (try clear hb2); (try clear hk); (try clear hi); (try clear ho0)))
        go_ret2
        exact ⟨_, ez, nz, hz1 HB.out (ag.ge bB.out)⟩
       ·
        rw [if_neg c38] at H; have OW : decide (0 < cR) = false := decide_eq_false c38; clear c38; simp only [Option.some.injEq, Prod.mk.injEq] at H; obtain ⟨rfl, rfl⟩ := H
        go_wp2_with (first | ((with_reducible refine ak (f := 43) rfl ?_); refine aD (some 23) rfl rfl Tryz.func43 (by kernel_rfl) rfl #[.pointer (some ⟨g231, 0, none⟩)] rfl mz ?_; (with_reducible refine (aV.calls g231 fR fS t232 t233 t234 w _ ?side1 ?side2 A7.out).mono ?_); (case side1 => exact ag.lz bB.out); (case side2 => exact hz1 HB.out (ag.ge bB.out)); rintro e w42 ⟨rfl, hi, hb, hk⟩; refine ⟨_, rfl, ?_⟩; replace HO_7 := am (Kd.au (Kd.di (ag.apart (show ag w _ g231 fR fS from ag.lz bB.out) (rz HO_7.out) (by decide)) hk (fun _ h => h.2)) (fun _ h => h.1)); replace HB := am (hb); replace bB := am (hi); (try clear hb); (try clear hb2); (try clear hk); (try clear hi); obtain ⟨QG, QH, QI⟩ := Kd.bu HO_7.out; subst QI) | ((with_reducible refine ak (f := 135) rfl ?_); refine aD (some 57) rfl rfl Tryz.func135 (by kernel_rfl) rfl #[.slice QG bD.length QH, .int .i64 a1] rfl mz ?_; (with_reducible refine (bY.calls k1 _ _ bD a1 t235 true _ ?side1 ?side2 A36.out).mono ?_); (case side1 => repeat (first | exact (Kd.av HO_7.out).2.2 | (with_reducible refine Kd.bO ?_ _) | (with_reducible refine Kd.bQ ?_ _) | (with_reducible refine Kd.bZ ?_))); (case side2 => exact (Kd.av HO_7.out).2.1); rintro e w44 ⟨v237, rfl, ho0, hb⟩; refine ⟨_, rfl, ?_⟩; replace HO_7 := rb HO_7 hb; have EF := am (Kd.cV ho0 (ai (hz1 HB.out (ag.ge bB.out)))); replace HB := am (aM (hz1 HB.out (ag.ge bB.out)) hb); replace bB := am (ag.below (ag.lz bB.out) hb); (try clear hb); (try clear hb2); (try clear hk); (try clear hi); (try clear ho0)))
        go_ret2
        exact ⟨_, ez, by (with_reducible repeat (first | apply Kd.ay | apply Kd.aC | apply Kd.ax)); exact EF.out, hz1 HB.out (ag.ge bB.out)⟩
      ·
       replace c37 := Bool.eq_false_iff.mpr c37; subst c37; rw [if_neg (show ¬ (false = true) by decide)] at H; simp only [Option.some.injEq, Prod.mk.injEq] at H; obtain ⟨rfl, rfl⟩ := H
       go_wp2_with (first | ((with_reducible refine ak (f := 43) rfl ?_); refine aD (some 23) rfl rfl Tryz.func43 (by kernel_rfl) rfl #[.pointer (some ⟨g231, 0, none⟩)] rfl mz ?_; (with_reducible refine (aV.calls g231 fR fS t232 t233 t234 w _ ?side1 ?side2 A7.out).mono ?_); (case side1 => exact ag.lz bB.out); (case side2 => exact hz1 HB.out (ag.ge bB.out)); rintro e w45 ⟨rfl, hi, hb, hk⟩; refine ⟨_, rfl, ?_⟩; replace HO_7 := am (Kd.au (Kd.di (ag.apart (show ag w _ g231 fR fS from ag.lz bB.out) (rz HO_7.out) (by decide)) hk (fun _ h => h.2)) (fun _ h => h.1)); replace HB := am (hb); replace bB := am (hi); (try clear hb); (try clear hb2); (try clear hk); (try clear hi); obtain ⟨QJ, QK, QL⟩ := Kd.bu HO_7.out; subst QL) | ((with_reducible refine ak (f := 135) rfl ?_); refine aD (some 57) rfl rfl Tryz.func135 (by kernel_rfl) rfl #[.slice QJ bD.length QK, .int .i64 a1] rfl mz ?_; (with_reducible refine (bY.calls k1 _ _ bD a1 t235 false _ ?side1 ?side2 A36.out).mono ?_); (case side1 => repeat (first | exact (Kd.av HO_7.out).2.2 | (with_reducible refine Kd.bO ?_ _) | (with_reducible refine Kd.bQ ?_ _) | (with_reducible refine Kd.bZ ?_))); (case side2 => exact (Kd.av HO_7.out).2.1); rintro e w47 ⟨v237, rfl, ho0, hb⟩; refine ⟨_, rfl, ?_⟩; replace HO_7 := rb HO_7 hb; have EF := am (Kd.cV ho0 (ai (hz1 HB.out (ag.ge bB.out)))); replace HB := am (aM (hz1 HB.out (ag.ge bB.out)) hb); replace bB := am (ag.below (ag.lz bB.out) hb); (try clear hb); (try clear hb2); (try clear hk); (try clear hi); (try clear ho0)))
       go_ret2
       exact ⟨_, ez, nz, hz1 HB.out (ag.ge bB.out)⟩
def eE.f (s0_0 : ByteArray) (s0_1 : Int) : Option (Int × ByteArray × Int) := (bh.f s0_0 s0_1).bind fun sA => (if sA.1 = 0 then ((aV.f sA.2.1 sA.2.2).bind fun wG => (if wG.1 = 0 then (some (sA.1, wG.2.1, wG.2.2)) else (some (5, wG.2.1, wG.2.2)))) else (some (sA.1, sA.2.1, sA.2.2)))
set_option maxHeartbeats 8000000 in
set_option maxRecDepth 100000 in
theorem eE.calls (g : Nat) (s0_0 : ByteArray) (s0_1 : Int) (r1 : Int) (r2 : ByteArray) (r3 : Int) (w0 w : World) (hI : ag w0 w g s0_0 s0_1) (hB : Below w0.heap.size w0 w) (h : eE.f s0_0 s0_1 = some (r1, r2, r3)) :
 Calls Tryz.prog 90 #[.pointer (some ⟨g, 0, none⟩)] w fun e w' => e = .returned (.int .i64 r1) ∧ ag w0 w' g r2 r3 ∧ Below w0.heap.size w0 w' ∧ bE w w' g none := by
 have HI0 := Aside0.mk hI; have HK := Aside0.mk (bE.refl w g none); have HL := Aside0.mk hB.size; clear hI; have HW0 := Aside0.mk hB.size; have HB := Aside0.mk hB; clear hB; have H := h; unfold eE.f at H; clear h; obtain ⟨⟨tI, Bu, Bv⟩, A2, H⟩ := bnz H; (try dsimp only at H)
 by_cases c3 : tI = 0
 ·
  rw [if_pos c3] at H; have gD : (tI == 0) = true := beq_iff_eq.mpr c3; have kT : (tI != 0) = false := bne_eq_false_iff_eq.mpr c3; clear c3; obtain ⟨⟨vC, MD, ME⟩, A4, H⟩ := bnz H; (try dsimp only at H)
  by_cases c5 : vC = 0
  ·
   rw [if_pos c5] at H; have fk : (vC == 0) = true := beq_iff_eq.mpr c5; have pZ : (vC != 0) = false := bne_eq_false_iff_eq.mpr c5; clear c5; simp only [Option.some.injEq, Prod.mk.injEq] at H; obtain ⟨rfl, rfl, rfl⟩ := H; go_enter Tryz.func90, Tryz.ntmps90
   go_wp2_with (first | ((with_reducible refine ak (f := 42) rfl ?_); refine aD (some 5) rfl rfl Tryz.func42 (by kernel_rfl) rfl #[.pointer (some ⟨g, 0, none⟩)] rfl mz ?_; (with_reducible refine (bh.calls g s0_0 s0_1 tI Bu Bv w0 _ ?side1 ?side2 A2.out).mono ?_); (case side1 => exact ag.lz HI0.out); (case side2 => exact hz1 HB.out (ag.ge HI0.out)); rintro e w6 ⟨rfl, hi, hb, hk⟩; refine ⟨_, rfl, ?_⟩; replace HK := am (bE.trans (by repeat (first | (with_reducible first | exact HK.out | apply bE.kL | apply gi | apply jr | apply eK) | exact HK.out)) hk (.inl rfl)); replace HB := am (hb); replace HI0 := am (hi); (try clear hb); (try clear hb2); (try clear hk); (try clear hi)) | (go_at_call 43; (with_reducible refine (aV.calls g Bu Bv vC MD ME w0 _ ?side1 ?side2 A4.out).mono ?_); (case side1 => exact ag.lz HI0.out); (case side2 => exact hz1 HB.out (ag.ge HI0.out)); rintro e w7 ⟨rfl, hi, hb, hk⟩; replace HK := am (bE.trans (by repeat (first | (with_reducible first | exact HK.out | apply bE.kL | apply gi | apply jr | apply eK) | exact HK.out)) hk (.inl rfl)); replace HB := am (hb); replace HI0 := am (hi); (try clear hb); (try clear hb2); (try clear hk); (try clear hi)))
   go_ret
   exact ⟨ez, ag.lz HI0.out, hz1 HB.out (ag.ge HI0.out), by repeat (first | (with_reducible first | exact HK.out | apply bE.kL | apply gi | apply jr | apply eK) | exact HK.out)⟩
  ·
   rw [if_neg c5] at H; have fk : (vC == 0) = false := beq_eq_false_iff_ne.mpr c5; have pZ : (vC != 0) = true := bne_iff_ne.mpr c5; simp only [Option.some.injEq, Prod.mk.injEq] at H; obtain ⟨rfl, rfl, rfl⟩ := H; go_enter Tryz.func90, Tryz.ntmps90
   go_wp2_with (first | ((with_reducible refine ak (f := 42) rfl ?_); refine aD (some 5) rfl rfl Tryz.func42 (by kernel_rfl) rfl #[.pointer (some ⟨g, 0, none⟩)] rfl mz ?_; (with_reducible refine (bh.calls g s0_0 s0_1 tI Bu Bv w0 _ ?side1 ?side2 A2.out).mono ?_); (case side1 => exact ag.lz HI0.out); (case side2 => exact hz1 HB.out (ag.ge HI0.out)); rintro e w8 ⟨rfl, hi, hb, hk⟩; refine ⟨_, rfl, ?_⟩; replace HK := am (bE.trans (by repeat (first | (with_reducible first | exact HK.out | apply bE.kL | apply gi | apply jr | apply eK) | exact HK.out)) hk (.inl rfl)); replace HB := am (hb); replace HI0 := am (hi); (try clear hb); (try clear hb2); (try clear hk); (try clear hi)) | (go_at_call 43; (with_reducible refine (aV.calls g Bu Bv vC MD ME w0 _ ?side1 ?side2 A4.out).mono ?_); (case side1 => exact ag.lz HI0.out); (case side2 => exact hz1 HB.out (ag.ge HI0.out)); rintro e w9 ⟨rfl, hi, hb, hk⟩; replace HK := am (bE.trans (by repeat (first | (with_reducible first | exact HK.out | apply bE.kL | apply gi | apply jr | apply eK) | exact HK.out)) hk (.inl rfl)); replace HB := am (hb); replace HI0 := am (hi); (try clear hb); (try clear hb2); (try clear hk); (try clear hi)))
   go_ret
   exact ⟨ez, ag.lz HI0.out, hz1 HB.out (ag.ge HI0.out), by repeat (first | (with_reducible first | exact HK.out | apply bE.kL | apply gi | apply jr | apply eK) | exact HK.out)⟩
 ·
  rw [if_neg c3] at H; have gD : (tI == 0) = false := beq_eq_false_iff_ne.mpr c3; have kT : (tI != 0) = true := bne_iff_ne.mpr c3; simp only [Option.some.injEq, Prod.mk.injEq] at H; obtain ⟨rfl, rfl, rfl⟩ := H; go_enter Tryz.func90, Tryz.ntmps90
  go_wp2_with (first | ((with_reducible refine ak (f := 42) rfl ?_); refine aD (some 5) rfl rfl Tryz.func42 (by kernel_rfl) rfl #[.pointer (some ⟨g, 0, none⟩)] rfl mz ?_; (with_reducible refine (bh.calls g s0_0 s0_1 tI Bu Bv w0 _ ?side1 ?side2 A2.out).mono ?_); (case side1 => exact ag.lz HI0.out); (case side2 => exact hz1 HB.out (ag.ge HI0.out)); rintro e w10 ⟨rfl, hi, hb, hk⟩; refine ⟨_, rfl, ?_⟩; replace HK := am (bE.trans (by repeat (first | (with_reducible first | exact HK.out | apply bE.kL | apply gi | apply jr | apply eK) | exact HK.out)) hk (.inl rfl)); replace HB := am (hb); replace HI0 := am (hi); (try clear hb); (try clear hb2); (try clear hk); (try clear hi)))
  go_ret
  exact ⟨ez, ag.lz HI0.out, hz1 HB.out (ag.ge HI0.out), by repeat (first | (with_reducible first | exact HK.out | apply bE.kL | apply gi | apply jr | apply eK) | exact HK.out)⟩
def jn.f (a0 : Int) : Option (Bool) := if (Go.bits .and .u64 (a0 / 4503599627370496) 2047) = 2047 then (if (Go.bits .and .u64 a0 4503599627370495) = 0 then (some true) else (some (a0 == 9221120237041090560))) else (some true)
set_option maxHeartbeats 8000000 in
set_option maxRecDepth 100000 in
theorem jn.calls (a0 : Int) (r : Bool) (w : World) (h : jn.f a0 = some r) :
 Calls Tryz.prog 137 #[.int .u64 a0] w fun e w' => e = .returned (.bool r) ∧ bP w w' := by
 have H := h; unfold jn.f at H; clear h
 by_cases c2 : (Go.bits .and .u64 (a0 / 4503599627370496) 2047) = 2047
 ·
  rw [if_pos c2] at H; have jB : ((Go.bits .and .u64 (a0 / 4503599627370496) 2047) == 2047) = true := beq_iff_eq.mpr c2; have DL : ((Go.bits .and .u64 (a0 / 4503599627370496) 2047) != 2047) = false := bne_eq_false_iff_eq.mpr c2; clear c2
  by_cases c3 : (Go.bits .and .u64 a0 4503599627370495) = 0
  ·
   rw [if_pos c3] at H; have gD : ((Go.bits .and .u64 a0 4503599627370495) == 0) = true := beq_iff_eq.mpr c3; have kT : ((Go.bits .and .u64 a0 4503599627370495) != 0) = false := bne_eq_false_iff_eq.mpr c3; clear c3; obtain rfl := Option.some.inj H; go_enter Tryz.func137, Tryz.ntmps137
   go_wp2
   go_ret
   exact ⟨by first | rfl | (simp; done) | (simp [*]; done), by repeat (first | exact bP.refl _ | apply bP.step)⟩
  ·
   rw [if_neg c3] at H; have gD : ((Go.bits .and .u64 a0 4503599627370495) == 0) = false := beq_eq_false_iff_ne.mpr c3; have kT : ((Go.bits .and .u64 a0 4503599627370495) != 0) = true := bne_iff_ne.mpr c3; obtain rfl := Option.some.inj H; go_enter Tryz.func137, Tryz.ntmps137
   go_wp2
   go_ret
   exact ⟨by first | rfl | (simp; done) | (simp [*]; done), by repeat (first | exact bP.refl _ | apply bP.step)⟩
 ·
  rw [if_neg c2] at H; have jB : ((Go.bits .and .u64 (a0 / 4503599627370496) 2047) == 2047) = false := beq_eq_false_iff_ne.mpr c2; have DL : ((Go.bits .and .u64 (a0 / 4503599627370496) 2047) != 2047) = true := bne_iff_ne.mpr c2; obtain rfl := Option.some.inj H; go_enter Tryz.func137, Tryz.ntmps137
  go_wp2
  go_ret
  exact ⟨by first | rfl | (simp; done) | (simp [*]; done), by repeat (first | exact bP.refl _ | apply bP.step)⟩
end Go.Proofs.YtfgnjndfnijjoaaGreat.Print
end
section
namespace Go.Proofs.YtfgnjndfnijjoaaGreat.Print
open Go.RowKit Go.Proofs.YtfgnjndfnijjoaaGreatW.PrintWords Go.Proofs.YtfgnjndfnijjoaaGreatW.PrintLast Go.Proofs.YtfgnjndfnijjoaaGreatW.PrintMore
attribute [local go_sem] dJ dK eF eG cZ dc dL dM
attribute [local go_sem] bH
set_option linter.unusedVariables false
set_option linter.unusedSimpArgs false
theorem oY {D : Nat} (h : D < 9007199254740992) {x k : Int} (hx : -1074 ≤ x) (hx2 : x ≤ 971) (hk : -1074 ≤ k) (hk2 : k ≤ 1023) (hxk : -1074 ≤ x + k) (W : World) :
    (binOp .mul 49 (.float .f64 (Fl.R0 D x)) (.float .f64 (Fl.rung 1 k))).run Tryz.prog W = .ok (.float .f64 (Fl.R0 D (x + k))) W :=
  run_float_arith W .mul 49 .f64 _ _ _ (Fl.J1 h hx hx2 hk hk2 hxk)
theorem Hv (i : Int) (h0 : 0 ≤ i) (h1 : i < 10) : (2 : Int) ^ (10 - i).toNat = 2 * 2 ^ (9 - i).toNat := by
 rw [show (10 - i).toNat = (9 - i).toNat + 1 by omega, Int.pow_succ]
 omega
set_option maxHeartbeats 8000000 in
set_option maxRecDepth 100000 in
theorem EG.calls {D : Nat} (h : D < 9007199254740992) (N : Int) (hN : -1074 ≤ N) (hN2 : N ≤ 971) (w : World) :
    Calls Tryz.prog 170 #[.float .f64 (Fl.R0 D 0), .int .i64 N] w fun e_ w' => e_ = .returned (.float .f64 (Fl.R0 D N)) ∧ Below w.heap.size w w' := by
 obtain ⟨PV, hPV⟩ : ∃ v, v = qt := ⟨_, rfl⟩; have hu := Tryz.underlying178; go_enter Tryz.func170, Tryz.ntmps170
 go_wp2_with (first | (go_at_call 157; (with_reducible refine (uN.calls _).mono ?_); rintro e' w1 ⟨rfl, hb1⟩))
 rw [← hPV]; have HPV := Aside0.mk hPV; clear hPV; have HB1 := Aside0.mk hb1; clear hb1
 go_loopg [0, 1, 8] 11 (fun kq v0 v1 v8 w' => ∃ (x n i : Int), v0 = .float .f64 (Fl.R0 D x) ∧ v1 = .int .i64 n ∧ v8 = .int .i64 i ∧ Aside0 (0 ≤ i ∧ i ≤ 10 ∧ 10 - i < kq ∧ x + n = N ∧ -1074 ≤ x ∧ x ≤ 971 ∧ -2000 < n ∧ n < 2000 ∧ (0 ≤ N → 0 ≤ n) ∧ (N ≤ 0 → n ≤ 0) ∧ (i = 0 ∨ (-(2 ^ (10 - i).toNat : Int) < n ∧ n < 2 ^ (10 - i).toNat))) ∧ Aside0 (Below w.heap.size w w'))
 case atStart => exact ⟨0, N, 0, by first | rfl | simp, by first | rfl | simp, by first | rfl | simp, ⟨by omega⟩, HB1⟩
 case round =>
  clear HB1; obtain ⟨x, n, i, rfl, rfl, rfl, HK, HB⟩ := hrel
  by_cases hi : i < 10
  ·
   cases gk with
   | zero => have := HK.out; exact absurd this (by omega)
   | succ k1 =>
    have d1 : decide (i < 10) = true := decide_eq_true hi; have hk := HK.out; obtain ⟨p, ⟨hp1, hp2, hp3⟩, hidx⟩ := AR i hk.1 hi; have hpw := Hv i hk.1 hi; rw [← hp3] at hpw; have HPW := Aside0.mk hpw; have HP3 := Aside0.mk hp3; have hB : (i = 0 → p = 512) := by intro h; rw [hp3, h]; rfl
    have hB2 : -(2 * p) - (if i = 0 then 2000 else 0) < n ∧ n < 2 * p + (if i = 0 then 2000 else 0) := by
     rw [hpw] at hk
     split <;> omega
    have HB2 := Aside0.mk hB2; have rw1 : IntKind.i64.wrap (i + 1) = i + 1 := by rw [IntKind.wrap_i64]; omega
    have HIX := Aside0.mk hidx; have HKK := Aside0.mk hk; clear hidx hpw hp3 hB hB2; obtain ⟨W0, hW0⟩ : ∃ W, W = wr.alloc (.cells #[.int .i64 p, .float .f64 (Fl.rung 1 p), .float .f64 (Fl.rung 1 (-p))] 178) := ⟨_, rfl⟩; have HW0 := Aside0.mk hW0; clear hW0
    go_wp2_with (first | ((with_reducible refine bG (N := 10) rfl ?_); refine Kd.j6 rfl (pM rfl HPV.out rfl (HIX.out _)) ?_))
    go_loopg [0, 1] 3000 (fun kq v0 v1 w' => ∃ (x n : Int), v0 = .float .f64 (Fl.R0 D x) ∧ v1 = .int .i64 n ∧ Aside0 (n < kq ∧ x + n = N ∧ -1074 ≤ x ∧ x ≤ 971 ∧ -2000 < n ∧ n < 2000 ∧ (0 ≤ N → 0 ≤ n) ∧ (N ≤ 0 → n ≤ 0) ∧ -(2 * p) - (if i = 0 then 2000 else 0) < n) ∧ Aside0 (w' = W0))
    case atStart => exact ⟨x, n, by rfl, by rfl, ⟨by have := HB2.out.1; omega⟩, ⟨HW0.out.symm⟩⟩
    case round =>
     obtain ⟨x, n, rfl, rfl, HK2, HW⟩ := hrel; have e1 := HW.out.trans HW0.out; subst e1; have hk2 := HK2.out
     by_cases c1 : p ≤ n
     ·
      cases gk with
      | zero => exact absurd c1 (by omega)
      | succ k2 =>
       have s1 : decide (n ≥ p) = true := decide_eq_true c1; have m1 := oY h (x := x) (k := p) (by omega) (by omega) (by omega) (by omega) (by omega); have rw2 : IntKind.i64.wrap (n - p) = n - p := by rw [IntKind.wrap_i64]; omega
       go_wp2
       go_roundg k2
       case measure => omega
       case rel => exact ⟨x + p, n - p, by rfl, by first | rfl | simp [goInt, rw2], ⟨by split at hk2 <;> (try split) <;> omega⟩, ⟨HW0.out.symm⟩⟩
     ·
      have s1 : decide (n ≥ p) = false := decide_eq_false c1
      go_wp2
      go_loopg [0, 1] 3000 (fun kq v0 v1 w' => ∃ (x n : Int), v0 = .float .f64 (Fl.R0 D x) ∧ v1 = .int .i64 n ∧ Aside0 (-n < kq ∧ x + n = N ∧ -1074 ≤ x ∧ x ≤ 971 ∧ -2000 < n ∧ n < p ∧ (0 ≤ N → 0 ≤ n) ∧ (N ≤ 0 → n ≤ 0)) ∧ Aside0 (w' = W0))
      case atStart => exact ⟨x, n, by rfl, by rfl, ⟨by omega⟩, ⟨HW0.out.symm⟩⟩
      case round =>
       clear HK2 HW hk2 c1 s1; obtain ⟨x, n, rfl, rfl, HK2, HW⟩ := hrel; have e1 := HW.out.trans HW0.out; subst e1; have hk2 := HK2.out; have rwn : IntKind.i64.wrap (-p) = -p := by rw [IntKind.wrap_i64]; omega
       by_cases c1 : n ≤ -p
       ·
        cases gk with
        | zero => exact absurd c1 (by omega)
        | succ k2 =>
         have s1 : decide (n ≤ -p) = true := decide_eq_true c1; have m1 := oY h (x := x) (k := -p) (by omega) (by omega) (by omega) (by omega) (by omega); have rw2 : IntKind.i64.wrap (n + p) = n + p := by rw [IntKind.wrap_i64]; omega
         go_wp2
         go_roundg k2
         case measure => omega
         case rel => exact ⟨x + -p, n + p, by rfl, by first | rfl | simp [goInt, rw2], ⟨by omega⟩, ⟨HW0.out.symm⟩⟩
       ·
        have s1 : decide (n ≤ -p) = false := decide_eq_false c1
        go_wp2
        go_roundg k1
        case measure => have := HKK.out; omega
        case rel =>
         refine ⟨x, n, i + 1, by rfl, by rfl, by first | rfl | simp [goInt, rw1], ⟨?_⟩, ⟨HB.out.alloc HB.out.size _⟩⟩; have hkk := HKK.out; have h3 := HP3.out; rw [show (10 - (i + 1)).toNat = (9 - i).toNat by omega, ← h3]
         omega
  ·
   have d1 : decide (i < 10) = false := decide_eq_false hi; have hk := HK.out; have MF : i = 10 := by omega
   rw [MF] at hk
   have hn : n = 0 := by
    have : (2 : Int) ^ (10 - 10 : Int).toNat = 1 := by decide
    omega
   have hx : x = N := by omega
   clear hk; have HX := Aside0.mk hx; clear hx hn MF
   go_wp2
   go_ret
   exact ⟨by rw [← HX.out]; rfl, HB.out⟩
def jK.f (a0 : Int) : Option Int := if 0 ≤ a0 ∧ a0 < 18446744073709551616 then some (dD a0.toNat : Nat) else none
theorem Bw {D : Nat} (h : D < 9007199254740992) (W : World) : (convert 60 49 (.int .u64 (D : Int))).run Tryz.prog W = .ok (.float .f64 (Fl.R0 D 0)) W := by
 have := run_convert_int_float (P := Tryz.prog) W 60 49 .u64 .f64 (D : Int) (by kernel_rfl) Tryz.underlying49
 rwa [Fl.CB h] at this
theorem F7 (x : Int) (h0 : 0 ≤ x) (h1 : x < 18446744073709551616) : bits .and .u64 (x / 4503599627370496) 2047 = x / 4503599627370496 % 2048 := vn 11 (by omega) _ (by omega) (by omega)
theorem F8 (x : Int) (h0 : 0 ≤ x) (h1 : x < 18446744073709551616) : bits .and .u64 x 4503599627370495 = x % 4503599627370496 := vn 52 (by omega) _ h0 h1
theorem fields_of (x : Nat) (hx : x < 18446744073709551616) :
    (9218868437227405312 < x % 9223372036854775808 ∧ (x : Int) / 4503599627370496 % 2048 = 2047 ∧ (x : Int) % 4503599627370496 ≠ 0) ∨
    (∃ s, x = Fl.inf s ∧ (x : Int) / 4503599627370496 % 2048 = 2047 ∧ (x : Int) % 4503599627370496 = 0) ∨
    ∃ s D, ∃ N : Int, D < 9007199254740992 ∧ -1074 ≤ N ∧ N ≤ 971 ∧ x = Ieee.double.word s (Fl.R0 D N) ∧ Fl.R0 D N ≤ 9218868437227405312 ∧
      (((x : Int) / 4503599627370496 % 2048 = 0 ∧ D = (x % 4503599627370496 : Nat) ∧ N = -1074) ∨
       (0 < (x : Int) / 4503599627370496 % 2048 ∧ (x : Int) / 4503599627370496 % 2048 < 2047 ∧ (D : Int) = x % 4503599627370496 + 4503599627370496 ∧ N = (x : Int) / 4503599627370496 % 2048 - 1075)) := by
  rcases Fl.classify x hx with hn | hz | hz | ⟨s, m, e, hm, hm2, he, hE, hz, hform⟩
  · exact .inl ⟨hn, by omega, by omega⟩
  · obtain ⟨s, hz⟩ := hz
    refine .inr (.inr ⟨s, 0, -1074, by omega, by omega, by omega, by rw [hz]; cases s <;> rfl, by unfold Fl.R0; rw [if_pos rfl]; omega, .inl ?_⟩)
    cases s
    · have : x = 0 := hz
      subst this
      decide
    · have : x = 9223372036854775808 := hz
      subst this
      decide
  · obtain ⟨s, hz⟩ := hz
    refine .inr (.inl ⟨s, hz, ?_⟩)
    cases s
    · have : x = 9218868437227405312 := hz
      omega
    · have : x = 18442240474082181120 := hz
      omega
  · have hv := Fl.vk s (Fl.rung m e)
    rw [← hz] at hv
    have hR : Fl.R0 m e = Fl.rung m e := by unfold Fl.R0; rw [if_neg hm]
    obtain ⟨_, h1, h2⟩ := Fl.gH s hm hm2 he hE
    refine .inr (.inr ⟨s, m, e, hm2, he, ?_, by rw [hR]; exact hz, by omega, ?_⟩)
    · rcases hform with ⟨_, f2, _, _⟩ | ⟨_, _, f3, _⟩ <;> omega
    · rcases hform with ⟨f1, f2, f3, f4⟩ | ⟨f1, f2, f3, f4⟩
      · left
        cases s
        · simp only [Bool.false_eq_true, if_false] at hv
          exact ⟨by omega, by omega, f2⟩
        · simp only [if_true] at hv
          exact ⟨by omega, by omega, f2⟩
      · right
        cases s
        · simp only [Bool.false_eq_true, if_false] at hv
          exact ⟨by omega, by omega, by omega, by omega⟩
        · simp only [if_true] at hv
          exact ⟨by omega, by omega, by omega, by omega⟩
set_option maxHeartbeats 8000000 in
set_option maxRecDepth 100000 in
theorem jK.calls (a0 : Int) (r : Int) (w : World) (h : jK.f a0 = some r) :
    Calls Tryz.prog 138 #[.int .u64 a0] w fun e_ w' => ∃ b0_ : Nat, e_ = .returned (.float .f64 b0_) ∧ FB b0_ r ∧ Below w.heap.size w w' := by
 unfold jK.f at h
 by_cases ha : 0 ≤ a0 ∧ a0 < 18446744073709551616
 case neg => rw [if_neg ha] at h; exact absurd h (by simp)
 rw [if_pos ha] at h; obtain rfl := Option.some.inj h; clear h; obtain ⟨x, rfl⟩ : ∃ x : Nat, a0 = x := ⟨a0.toNat, by omega⟩; rw [Int.toNat_natCast]; have hx : x < 18446744073709551616 := by omega
 have k1 := F7 x (by omega) (by omega); have k2 := F8 x (by omega) (by omega)
 rcases fields_of x hx with ⟨hn, f1, f2⟩ | ⟨s, hz, f1, f2⟩ | ⟨s, D, N, hD, hN1, hN2, hz, hle, hform⟩
 ·
  have hc : dD x = 9221120237041090560 := by unfold dD; rw [if_pos hn]
  rw [hc]; have d1 : decide ((x : Int) / 4503599627370496 % 2048 = 2047) = true := decide_eq_true f1; have d2 : decide ((x : Int) % 4503599627370496 = 0) = false := decide_eq_false f2; have q := xF Tryz.prog 49; go_enter Tryz.func138, Tryz.ntmps138
  go_wp2
  go_ret
  exact ⟨_, rfl, AH w, oG (Below.refl _ _)⟩
 ·
  have hc : dD x = x := by unfold dD; rw [hz]; cases s <;> rfl
  rw [hc]; have d1 : decide ((x : Int) / 4503599627370496 % 2048 = 2047) = true := decide_eq_true f1; have d2 : decide ((x : Int) % 4503599627370496 = 0) = true := decide_eq_true f2; have q : ∀ W, (binOp .quo 49 (.float .f64 4607182418800017408) (.float .f64 0)).run Tryz.prog W = .ok (.float .f64 (Fl.inf false)) W := fun W => run_float_arith W .quo 49 .f64 _ _ _ (by decide)
  have hng := oW Tryz.prog; have k3 := AJ x (by omega); have HZ := Aside0.mk hz
  have hng : ∀ W, (Op.unary .neg (.float .f64 (Fl.inf false))).run Tryz.prog W = .ok (.float .f64 (Fl.inf true)) W := by
   have h : Op.negFloat .f64 (Fl.inf false) = Fl.inf true := by decide
   intro W; simp only [Op.unary, h, Sem.run_pure]
  cases s
  ·
   rw [if_neg (by rw [hz]; decide)] at k3; clear hz; go_enter Tryz.func138, Tryz.ntmps138
   go_wp2
   go_ret
   exact ⟨_, rfl, by rw [HZ.out]; exact vY false, Below.refl _ _⟩
  ·
   rw [if_pos (by rw [hz]; decide)] at k3; clear hz; go_enter Tryz.func138, Tryz.ntmps138
   go_wp2
   go_ret
   exact ⟨_, rfl, by rw [HZ.out]; exact vY true, Below.refl _ _⟩
 ·
  have hc : dD x = x := by rw [hz]; exact Fl.mT s hle
  rw [hc]; have HZ := Aside0.mk hz; have k3 := AJ x hx; have hwg := CS s (r := Fl.R0 D N) (by omega); rw [← hz] at hwg; have hfb : FB x (x : Nat) := by rw [hz]; exact xG s hle
  have HFB := Aside0.mk hfb; have hsc := fun W => EG.calls hD N hN1 hN2 W
  have hng : ∀ W, (Op.unary .neg (.float .f64 (Fl.R0 D N))).run Tryz.prog W = .ok (.float .f64 (Ieee.double.word true (Fl.R0 D N))) W := fun W => by
   have := oW Tryz.prog W false (r := Fl.R0 D N) (by omega)
   rwa [Fl.bX] at this
  have fa := Bw hD
  rcases hform with ⟨f1, f2, f3⟩ | ⟨f1, f1', f2, f3⟩
  ·
   have d1 : decide ((x : Int) / 4503599627370496 % 2048 = 2047) = false := decide_eq_false (by omega); have d3 : decide ((x : Int) / 4503599627370496 % 2048 = 0) = true := decide_eq_true f1; have f2' : (x : Int) % 4503599627370496 = (D : Int) := by omega
   rw [f3] at hsc hng; have HNG := Aside0.mk hng; have HN := Aside0.mk f3; clear hng
   cases s
   ·
    rw [if_neg (by rw [hwg]; decide)] at k3; clear hz hwg hfb f2 f3 hle; go_enter Tryz.func138, Tryz.ntmps138
    go_wp2_with (first | (go_at_call 170; (with_reducible refine (hsc _).mono ?_); rintro e' w1 ⟨rfl, hb1⟩))
    go_ret
    exact ⟨_, rfl, by have := HFB.out; rw [HZ.out, Fl.bX, HN.out] at this ⊢; exact this, ij (Below.refl _ _) (Nat.le_refl _) hb1⟩
   ·
    rw [if_pos (by rw [hwg])] at k3; clear hz hwg hfb f2 f3 hle; have hng := HNG.out; go_enter Tryz.func138, Tryz.ntmps138
    go_wp2_with (first | (go_at_call 170; (with_reducible refine (hsc _).mono ?_); rintro e' w1 ⟨rfl, hb1⟩))
    go_ret
    exact ⟨_, rfl, by have := HFB.out; rw [HZ.out, HN.out] at this ⊢; exact this, ij (Below.refl _ _) (Nat.le_refl _) hb1⟩
  ·
   have d1 : decide ((x : Int) / 4503599627370496 % 2048 = 2047) = false := decide_eq_false (by omega); have d3 : decide ((x : Int) / 4503599627370496 % 2048 = 0) = false := decide_eq_false (by omega); have o1 := NM ((x : Int) % 4503599627370496) (by omega) (by omega); rw [show (x : Int) % 4503599627370496 + 4503599627370496 = (D : Int) by omega] at o1; have HNG := Aside0.mk hng; have HN := Aside0.mk f3
   have hsc : ∀ W, Calls Tryz.prog 170 #[.float .f64 (Fl.R0 D 0), .int .i64 ((x : Int) / 4503599627370496 % 2048 - 1023 - 52)] W fun e_ w' => e_ = .returned (.float .f64 (Fl.R0 D N)) ∧ Below W.heap.size W w' := fun W => by
    have := hsc W; rw [f3, show (x : Int) / 4503599627370496 % 2048 - 1075 = (x : Int) / 4503599627370496 % 2048 - 1023 - 52 by omega] at this; rw [f3, show (x : Int) / 4503599627370496 % 2048 - 1075 = (x : Int) / 4503599627370496 % 2048 - 1023 - 52 by omega]; exact this
   clear hng
   cases s
   ·
    rw [if_neg (by rw [hwg]; decide)] at k3; clear hz hwg hfb f2 f3 hle; go_enter Tryz.func138, Tryz.ntmps138
    go_wp2_with (first | (go_at_call 170; (with_reducible refine (hsc _).mono ?_); rintro e' w1 ⟨rfl, hb1⟩))
    go_ret
    exact ⟨_, rfl, by have := HFB.out; rw [HZ.out, Fl.bX] at this ⊢; exact this, ij (Below.refl _ _) (Nat.le_refl _) hb1⟩
   ·
    rw [if_pos (by rw [hwg])] at k3; clear hz hwg hfb f2 f3 hle; have hng := HNG.out; go_enter Tryz.func138, Tryz.ntmps138
    go_wp2_with (first | (go_at_call 170; (with_reducible refine (hsc _).mono ?_); rintro e' w1 ⟨rfl, hb1⟩))
    go_ret
    exact ⟨_, rfl, by have := HFB.out; rw [HZ.out] at this ⊢; exact this, ij (Below.refl _ _) (Nat.le_refl _) hb1⟩
def eW.g : Nat → List Int → Int → ByteArray → Int → Option (List Int × Int)
  | 0, l, _, s, e => (eE.f s e).bind fun d => if d.1 ≠ 0 then some ([], d.1) else some (l, 0)
  | c + 1, l, last, s, e => (aJ.f s e).bind fun q => (jm.f q.1).bind fun v => if q.2.2 ≠ 0 then some ([], q.2.2) else
      (jn.f (bits .xor .u64 v last)).bind fun cn => if cn = false then some ([], 5) else (jK.f (bits .xor .u64 v last)).bind fun fl => eW.g c (l ++ [fl]) (bits .xor .u64 v last) q.2.1 q.2.2
def eW.f (a0 : ByteArray) (a1 : Int) : Option (List Int × Int) := if a1 < 0 then some ([], 1) else if a1 > (a0.size : Int) then some ([], 2) else if a1 ≤ 100000000 then (eD.f a0).bind fun p => eW.g a1.toNat [] 0 p.1 p.2 else none
structure RdC (w : World) (gp : Nat) (T : TypeId) (W : World) (last : Int) (s : ByteArray) (e : Int) (v : Value) (l : List Int) : Prop where
  I : ag w W gp s e
  B : Below w.heap.size w W
  p : W.heap[w.heap.size + 1]? = some (.cells #[.int .u64 last] 60 (0, 0))
  q : W.heap[w.heap.size]? = some (.cells #[.func (.func 136) #[] #[]] T (0, 0))
  R : Kd.R Kd.flt 49 W w.heap.size (fun k => k ≠ gp ∧ k ≠ w.heap.size + 1 ∧ k ≠ w.heap.size) v l
  n1 : gp ≠ w.heap.size + 1
  n2 : gp ≠ w.heap.size
section
variable {w W W' : World} {gp : Nat} {T : TypeId} {last : Int} {s s' : ByteArray} {e e' : Int} {v v' : Value} {l l' : List Int}
theorem RdC.below (h : RdC w gp T W last s e v l) (hb : Below W.heap.size W W') : RdC w gp T W' last s e v l :=
  ⟨h.I.below hb, aM h.B hb, aX h.p hb, aX h.q hb, Kd.gG h.R hb, h.n1, h.n2⟩
theorem RdC.step (h : RdC w gp T W last s e v l) (hI : ag w W' gp s' e') (hB : Below w.heap.size w W') (hk : bE W W' gp none) : RdC w gp T W' last s' e' v l :=
  ⟨hI, hB, hk.blk h.p (fun e => h.n1 e.symm) (by simp), hk.blk h.q (fun e => h.n2 e.symm) (by simp), Kd.di h.R hk (fun _ h => h.1), h.n1, h.n2⟩
theorem RdC.set (h : RdC w gp T W last s e v l) (x : Int) : RdC w gp T (W.setCell ⟨w.heap.size + 1, 0, none⟩ (.int .u64 x)) x s e v l :=
  ⟨h.I.far h.n1 _, h.B.setCell (p := ⟨w.heap.size + 1, 0, none⟩) (by show _ ≤ w.heap.size + 1; omega) _, jt h.p 0 _, iR h.q (by simp) _, Kd.eu h.R (fun _ h => h.2.1) _, h.n1, h.n2⟩
theorem RdC.app (h : RdC w gp T W last s e v l) (hg : W.grownBy W' v.ownBlock) (hB : Below w.heap.size w W') (hR : Kd.R Kd.flt 49 W' w.heap.size (fun k => k ≠ gp ∧ k ≠ w.heap.size + 1 ∧ k ≠ w.heap.size) v' l') : RdC w gp T W' last s e v' l' :=
  ⟨h.I.grown hg (Kd.nY h.R (fun _ h => h.1)), hB, eL h.p hg (Kd.nY h.R (fun _ h => h.2.1)), eL h.q hg (Kd.nY h.R (fun _ h => h.2.2)), hR, h.n1, h.n2⟩
end
set_option maxHeartbeats 8000000 in
set_option maxRecDepth 100000 in
theorem eW.calls (a0 : ByteArray) (a1 : Int) (r1 : List Int) (r2 : Int) (w : World) (h : eW.f a0 a1 = some (r1, r2)) :
    Calls Tryz.prog 75 #[.string a0, .int .i64 a1] w fun e w' => ∃ v0_ : Value, e = .returned (.tuple #[v0_, .int .i64 r2]) ∧ Kd.R Kd.flt 49 w' w.heap.size (fun _ => True) v0_ r1 ∧ Below w.heap.size w w' := by
 unfold eW.f at h
 by_cases h0 : a1 < 0
 ·
  rw [if_pos h0] at h; obtain ⟨rfl, rfl⟩ := by simpa using h
  have c0 := decide_eq_true h0; clear h; go_enter Tryz.func75, Tryz.ntmps75
  go_wp2
  go_ret2
  exact ⟨_, rfl, Kd.iE _ _ _ _ _, Below.refl _ _⟩
 rw [if_neg h0] at h; have c0 := decide_eq_false h0
 by_cases h1 : a1 > (a0.size : Int)
 ·
  rw [if_pos h1] at h; obtain ⟨rfl, rfl⟩ := by simpa using h
  have c1 : decide ((a0.size : Int) < a1) = true := decide_eq_true h1; clear h; go_enter Tryz.func75, Tryz.ntmps75
  go_wp2
  go_ret2
  exact ⟨_, rfl, Kd.iE _ _ _ _ _, Below.refl _ _⟩
 rw [if_neg h1] at h; have c1 : decide ((a0.size : Int) < a1) = false := decide_eq_false h1
 by_cases h2 : a1 ≤ 100000000
 case neg => rw [if_neg h2] at h; exact absurd h (by simp)
 rw [if_pos h2] at h; obtain ⟨⟨s1, e1⟩, H2, h⟩ := Option.bind_eq_some_iff.mp h; dsimp only at h; have HA := Aside0.mk (show 0 ≤ a1 ∧ a1 ≤ 100000000 from ⟨by omega, h2⟩); have A2 := Aside0.mk H2; have H := Aside0.mk h; clear h0 h1 h2 h H2; have hmf : ∀ (fn : Fn) (first cap : Array Value) (w : World), (Instr.makeFunc fn first cap).run Tryz.prog w = .ok (.func fn first cap) w := fun _ _ _ _ => rfl
 go_enter Tryz.func75, Tryz.ntmps75
 go_wp2_with (go_at_call 110; (with_reducible refine (oF 136 _).mono ?_); rintro e w3 ⟨rfl, T, hw3⟩; have HW := Aside0.mk hw3; clear hw3)
 have hz3 : w3.heap.size = w.heap.size + 2 := by rw [HW.out]; simp
 have hbq : w3.heap[w.heap.size]? = some (.cells #[.func (.func 136) #[] #[]] T (0, 0)) := by rw [HW.out]; exact bx (eJ w _) _
 have hbp : w3.heap[w.heap.size + 1]? = some (.cells #[.int .u64 0] 60 (0, 0)) := by
  have := eJ (w.alloc (.cells #[.func (.func 136) #[] #[]] T)) (.cells #[.int .u64 0] 60); rw [HW.out]
  simpa using this
 have hB3 : Below w.heap.size w w3 := by rw [HW.out]; exact aH (aH (Below.refl _ _) _) _
 have HX := Aside0.mk (And.intro hbq (And.intro hbp hB3)); clear hbq hbp hB3 hz3
 go_wp2_with (go_at_call 40; (with_reducible refine (eD.calls a0 s1 e1 w _ HX.out.2.2 A2.out).mono ?_); rintro e_ w4 ⟨gp, rfl, hI, hB, hb⟩; have hq4 := aX HX.out.1 hb; have hp4 := aX HX.out.2.1 hb; have C := Aside0.mk (show RdC w gp T w4 0 s1 e1 (.slice none 0 0) [] from ⟨hI, hB, hp4, hq4, Kd.iE _ _ _ _ _, Lp hI.1 hp4 (by decide), fun e => by have h := hI.1; rw [e, hq4] at h; simp at h⟩); clear hI hB hb hq4 hp4)
 go_loopg [8, 24] (a1.toNat + 1) (fun kq v8 v24 w' => ∃ (l : List Int) (c : Nat) (last : Int) (s : ByteArray) (e : Int), v24 = .int .i64 (l.length : Int) ∧ Aside0 (kq = c + 1 ∧ (l.length : Int) + c = a1) ∧ Aside0 (eW.g c l last s e = some (r1, r2)) ∧ Aside0 (RdC w gp T w' last s e v8 l))
 case atStart => exact ⟨[], a1.toNat, 0, s1, e1, by simp, ⟨rfl, by have := HA.out; simp; omega⟩, H, C⟩
 case round =>
  clear C H; obtain ⟨l, c, last, s, e, rfl, HK, H, C⟩ := hrel; have hk9 := HK.out; have hnn := HA.out
  cases c with
  | zero =>
   have d1 : decide ((l.length : Int) < a1) = false := decide_eq_false (by omega); have hG := H.out; unfold eW.g at hG; obtain ⟨⟨d, s', e'⟩, H9, hG⟩ := Option.bind_eq_some_iff.mp hG; have A9 := Aside0.mk H9; clear H H9; dsimp only at hG
   by_cases hd : d = 0
   case neg =>
    rw [if_pos hd] at hG; obtain ⟨rfl, rfl⟩ := by simpa using hG
    have x1 : (d == 0) = false := beq_eq_false_iff_ne.mpr hd; have x2 : (d != 0) = true := bne_iff_ne.mpr hd; clear hG
    go_wp2_with (go_at_call 90; (with_reducible refine (eE.calls gp s e _ s' e' w _ C.out.I C.out.B A9.out).mono ?_); rintro e_ w6 ⟨rfl, hi, hb, hk⟩; have n0_ := Aside0.mk (C.out.step hi hb hk); clear C hi hb hk; have C := n0_; clear n0_)
    go_ret2
    exact ⟨_, rfl, Kd.iE _ _ _ _ _, C.out.B⟩
   subst hd; rw [if_neg (by simp)] at hG; obtain ⟨rfl, rfl⟩ := by simpa using hG
   clear hG
   go_wp2_with (go_at_call 90; (with_reducible refine (eE.calls gp s e _ s' e' w _ C.out.I C.out.B A9.out).mono ?_); rintro e_ w6 ⟨rfl, hi, hb, hk⟩; have n0_ := Aside0.mk (C.out.step hi hb hk); clear C hi hb hk; have C := n0_; clear n0_)
   go_ret2
   exact ⟨_, rfl, Kd.au C.out.R (fun _ _ => trivial), C.out.B⟩
  | succ c =>
   have d1 : decide ((l.length : Int) < a1) = true := decide_eq_true (by omega); have hG := H.out; unfold eW.g at hG; obtain ⟨⟨n, s', e'⟩, H4, hG⟩ := Option.bind_eq_some_iff.mp hG; obtain ⟨v, H5, hG⟩ := Option.bind_eq_some_iff.mp hG; dsimp only at hG H5; have A4 := Aside0.mk H4; have A5 := Aside0.mk H5; obtain ⟨u, hu⟩ : ∃ u, bits BinOp.xor IntKind.u64 v last = u := ⟨_, rfl⟩; rw [hu] at hG; have HU := Aside0.mk hu; have HG := Aside0.mk hG; clear H H4 H5 hu hG
   go_wp2_with (first | (go_at_call 41; (with_reducible refine (aJ.calls gp s e n s' e' w _ C.out.I C.out.B A4.out).mono ?_); rintro e_ w5 ⟨rfl, hi, hb, hk⟩; have n0_ := Aside0.mk (C.out.step hi hb hk); clear C hi hb hk; have C := n0_; clear n0_) | (go_at_call 112; (with_reducible refine (jm.calls _ v _ A5.out).mono ?_); rintro e_ w7 ⟨rfl, hd⟩; have n0_ := Aside0.mk (C.out.below (j9 hd)); clear C hd; have C := n0_; clear n0_) | (go_at_call 160; (with_reducible refine (xL v last (w.heap.size + 1) w.heap.size T _ C.out.p C.out.q).mono ?_); rintro e_ w8 ⟨rfl, hw8⟩; rw [HU.out] at hw8; have n0_ := Aside0.mk (C.out.set u); rw [← hw8] at n0_; clear C hw8; have C := n0_; clear n0_))
   (try rw [HU.out]); have hG := HG.out
   by_cases he : e' = 0
   case neg =>
    rw [if_pos he] at hG; obtain ⟨rfl, rfl⟩ := by simpa using hG
    have x1 : (e' == 0) = false := beq_eq_false_iff_ne.mpr he; have x2 : (e' != 0) = true := bne_iff_ne.mpr he; clear hG HG
    go_wp2_with (first | (go_at_call 42; (refine (jz gp _ _ _ C.out.I.1).mono ?_); rintro e_ w5 ⟨rfl, rfl⟩))
    go_ret2
    exact ⟨_, rfl, Kd.iE _ _ _ _ _, C.out.B⟩
   subst he; rw [if_neg (by simp)] at hG; clear HG; obtain ⟨cn, H6, hG⟩ := Option.bind_eq_some_iff.mp hG; have A6 := Aside0.mk H6; clear H6
   cases cn with
   | false =>
    obtain ⟨rfl, rfl⟩ := by simpa using hG
    clear hG
    go_wp2_with (first | (go_at_call 42; (refine (jz gp _ _ _ C.out.I.1).mono ?_); rintro e_ w5 ⟨rfl, hw5⟩; subst hw5) | (go_at_call 137; (with_reducible refine (jn.calls u false _ A6.out).mono ?_); rintro e_ w6 ⟨rfl, hd⟩; have n0_ := Aside0.mk (C.out.below (j9 hd)); clear C hd; have C := n0_; clear n0_))
    go_ret2
    exact ⟨_, rfl, Kd.iE _ _ _ _ _, C.out.B⟩
   | true =>
    rw [if_neg (by simp)] at hG; obtain ⟨fl, H7, hG⟩ := Option.bind_eq_some_iff.mp hG; have A7 := Aside0.mk H7; have H := Aside0.mk hG; clear H7 hG
    go_wp2_with (first | (go_at_call 42; (refine (jz gp _ _ _ C.out.I.1).mono ?_); rintro e_ w5 ⟨rfl, hw5⟩; subst hw5) | (go_at_call 137; (with_reducible refine (jn.calls u true _ A6.out).mono ?_); rintro e_ w6 ⟨rfl, hd⟩; have n0_ := Aside0.mk (C.out.below (j9 hd)); clear C hd; have C := n0_; clear n0_) | (go_at_call 138; (with_reducible refine (jK.calls u fl _ A7.out).mono ?_); rintro e_ w7 ⟨bf, rfl, hq, hb⟩; have n0_ := Aside0.mk (C.out.below hb); have QF := Aside0.mk hq; clear C hb hq; have C := n0_; clear n0_) | ((with_reducible refine eB (b := .append) (xs := #[.tmp 41, .tmp 44]) rfl ?_); at_builtin; refine Kd.gQ Kd.flt (w0 := w) w.heap.size rfl (.tmp 41) (.tmp 44) 23 49 (.float .f64 0) 8 rfl Tryz.underlying23 (by kernel_rfl) rfl (by decide) (by omega) _ l fl [.float .f64 bf] (fun k => k ≠ gp ∧ k ≠ w.heap.size + 1 ∧ k ≠ w.heap.size) (fun _ => False) rfl rfl ?aP (fun _ hk => hk.elim) ?aF ?aO ?aB ?aS ?aL ?_; (case aP => exact ⟨_, rfl, QF.out⟩); (case aB => exact C.out.B); (case aF => intro k hk; have := cY C.out.I.1; have := cY C.out.p; have := cY C.out.q; omega); (case aO => exact C.out.R); (case aS => exact C.out.B.size); (case aL => omega); intro v1_ w9 ho hb hg hat; have n0_ := Aside0.mk (C.out.app hg hb ho); clear C ho hb hg hat; have C := n0_; clear n0_))
    go_roundg (c + 1)
    case measure => have := HK.out; omega
    case rel => exact ⟨l ++ [fl], c, u, s', 0, by simp, ⟨rfl, by have := HK.out; simp; omega⟩, H, C⟩
def cD.l0 : Nat → Int → List Bool → Int → Int → Option (Int)
 | 0, _, _, _, _ => none
 | k + 1, x3, x6, x7, x8 => if x8 < x7 then (if 0 ≤ x8 then (if x8 < (x6.length : Int) then (if fW false x6 x8 = true then (cD.l0 k (wrap64 (x3 + 1)) x6 x7 (wrap64 (x8 + 1))) else (cD.l0 k x3 x6 x7 (wrap64 (x8 + 1)))) else (none)) else (none)) else (some x3)
def cD.f (k : Nat) (l0 : List Bool) : Option (Int) := cD.l0 k 0 l0 (l0.length : Int) 0
theorem cD.cF : ∀ k, (∀ y0 y1 y2 y3, LeO (cD.l0 k y0 y1 y2 y3) (cD.l0 (k + 1) y0 y1 y2 y3))
 | 0 => fun _ _ _ _ r h => by simp [cD.l0] at h
 | k + 1 => by
  have ih0 := cD.cF k
  ·
   intro y0 y1 y2 y3; unfold cD.l0
   repeat' first
   | (with_reducible exact ih0 _ _ _ _)
   | (with_reducible exact LeO.refl _)
   | (with_reducible exact LeO.none _)
   | (with_reducible refine LeO.ite ?_ ?_)
   | (with_reducible refine LeO.bind ?_ (fun _ => ?_))
theorem cD.mono : ∀ a0 k, LeO (cD.f k a0) (cD.f (k + 1) a0) := by
 intro a0 k; have ih0 := cD.cF k; unfold cD.f
 repeat' first
  | (with_reducible exact ih0 _ _ _ _)
  | (with_reducible exact LeO.refl _)
  | (with_reducible exact LeO.none _)
  | (with_reducible refine LeO.ite ?_ ?_)
  | (with_reducible refine LeO.bind ?_ (fun _ => ?_))
set_option maxHeartbeats 8000000 in
set_option maxRecDepth 100000 in
theorem cD.calls (k : Nat) (A0 : Option Addr) (c0 : Nat) (l0 : List Bool) (r : Int) (w : World) (hr0 : Kd.C Kd.bool w A0 l0.length l0) (hc0 : l0.length ≤ c0) (h : cD.f k l0 = some r) :
 Calls Tryz.prog 76 #[.slice A0 l0.length c0] w fun e w' => e = .returned (.int .i64 r) ∧ bP w w' := by
 have HR0 := Aside0.mk hr0; have HC0 := Aside0.mk hc0; clear hr0 hc0; have H := h; unfold cD.f at H; clear h; have H' := Aside0.mk H; clear H; go_enter Tryz.func76, Tryz.ntmps76
 go_wp2
 go_loopg [3, 8] k (fun kq v3 v8 w' => ∃ (bA : Int) (cR : Int), v3 = .int .i64 bA ∧ v8 = .int .i64 cR ∧ Aside0 (cD.l0 kq bA l0 (l0.length : Int) cR = some r) ∧ Aside0 (kq ≤ k) ∧ bP w w')
 case atStart => exact ⟨(0), (0), sz, sz, H', ⟨Nat.le_refl _⟩, by repeat (first | exact bP.refl _ | apply bP.step)⟩
 case round =>
  clear H'; obtain ⟨bA, cR, rfl, rfl, HA, HK1, ⟨m1, rfl⟩⟩ := hrel
  cases gk with
  | zero => exact absurd HA.out (by simp [cD.l0])
  | succ k1 =>
   have H := HA.out; clear HA; simp only [cD.l0] at H
   by_cases c2 : cR < (l0.length : Int)
   ·
    rw [if_pos c2] at H; have jB := decide_eq_true c2; clear c2; obtain ⟨c3, H⟩ := ifz H; have gD : decide (0 ≤ cR) = true := decide_eq_true c3; clear c3; obtain ⟨c4, H⟩ := ifz H; have iC : decide (cR < (l0.length : Int)) = true := decide_eq_true c4; clear c4; obtain ⟨bq5, hbq5⟩ : ∃ b_ : Bool, b_ = (fW false l0 cR) := ⟨_, rfl⟩; replace H : (if bq5 = true then (cD.l0 k1 (wrap64 (bA + 1)) l0 (l0.length : Int) (wrap64 (cR + 1))) else (cD.l0 k1 bA l0 (l0.length : Int) (wrap64 (cR + 1)))) = some r := by rw [← hbq5] at H; exact H
    have Nbq5 := Aside0.mk hbq5; clear hbq5
    by_cases c6 : bq5 = true
    ·
     subst c6; rw [if_pos rfl] at H; have H' := Aside0.mk H; clear H; have p257 : 0 ≤ (cR : Int) := of_decide_eq_true az; have q257 : cR < (l0.length : Int) := of_decide_eq_true az; obtain ⟨OX, e257, yj⟩ := Kd.nA HR0.out cR p257 q257; (try rw [← Nbq5.out] at yj)
     cases e257
     replace p257 := eq_true p257; replace q257 := eq_true q257
     go_wp2
     go_roundg k1
     case measure => have := HK1.out; omega
     case rel => exact ⟨(wrap64 (bA + 1)), (wrap64 (cR + 1)), sz, sz, H', ⟨by have := HK1.out; omega⟩, by repeat (first | exact bP.refl _ | apply bP.step)⟩
    ·
     replace c6 := Bool.eq_false_iff.mpr c6; subst c6; rw [if_neg (show ¬ (false = true) by decide)] at H; have H' := Aside0.mk H; clear H; have p257 : 0 ≤ (cR : Int) := of_decide_eq_true az; have q257 : cR < (l0.length : Int) := of_decide_eq_true az; obtain ⟨OX, e257, yj⟩ := Kd.nA HR0.out cR p257 q257; (try rw [← Nbq5.out] at yj)
     cases e257
     replace p257 := eq_true p257; replace q257 := eq_true q257
     go_wp2
     go_roundg k1
     case measure => have := HK1.out; omega
     case rel => exact ⟨(bA), (wrap64 (cR + 1)), sz, sz, H', ⟨by have := HK1.out; omega⟩, by repeat (first | exact bP.refl _ | apply bP.step)⟩
   ·
    rw [if_neg c2] at H; have jB := decide_eq_false c2; clear c2; obtain rfl := Option.some.inj H
    go_wp2
    go_ret
    exact ⟨by first | rfl | (simp; done) | (simp [*]; done), by repeat (first | exact bP.refl _ | apply bP.step)⟩
def j8.f (a0 : Int) (a1 : Int) : Option (Bool) := (fH.f a0).bind fun Hw => ((fH.f a1).bind fun Hx => (some (Hw == Hx)))
set_option maxHeartbeats 8000000 in
set_option maxRecDepth 100000 in
theorem j8.calls (bv0 : Nat) (a0 : Int) (bv1 : Nat) (a1 : Int) (r : Bool) (w : World) (bq0 : FB bv0 a0) (bq1 : FB bv1 a1) (h : j8.f a0 a1 = some r) :
 Calls Tryz.prog 77 #[.float .f64 bv0, .float .f64 bv1] w fun e w' => e = .returned (.bool r) ∧ Below w.heap.size w w' := by
 have HB := Aside0.mk (Below.refl w.heap.size w); have H := h; unfold j8.f at H; clear h; obtain ⟨Hw, A3, H⟩ := bnz H; (try dsimp only at H); obtain ⟨Hx, A4, H⟩ := bnz H; (try dsimp only at H); obtain rfl := Option.some.inj H; go_enter Tryz.func77, Tryz.ntmps77
 go_wp2_with (first | ((with_reducible refine ak (f := 48) rfl ?_); refine aD (some 6) rfl rfl Tryz.func48 (by kernel_rfl) rfl #[.float .f64 bv0] rfl mz ?_; (with_reducible refine (fH.calls _ a0 Hw _ ?side1 A3.out).mono ?_); (case side1 => exact fz); rintro e w5 ⟨rfl, hb⟩; refine ⟨_, rfl, ?_⟩; replace HB := sb HB hb; (try clear hb); (try clear hb2); (try clear hk); (try clear hi)) | ((with_reducible refine ak (f := 48) rfl ?_); refine aD (some 8) rfl rfl Tryz.func48 (by kernel_rfl) rfl #[.float .f64 bv1] rfl mz ?_; (with_reducible refine (fH.calls _ a1 Hx _ ?side1 A4.out).mono ?_); (case side1 => exact fz); rintro e w6 ⟨rfl, hb⟩; refine ⟨_, rfl, ?_⟩; replace HB := sb HB hb; (try clear hb); (try clear hb2); (try clear hk); (try clear hi)))
 go_ret
 exact ⟨ez, hz HB.out⟩
end Go.Proofs.YtfgnjndfnijjoaaGreat.Print
end
section
namespace Go.Proofs.YtfgnjndfnijjoaaGreat.Print
open Go.RowKit Go.Proofs.YtfgnjndfnijjoaaGreatW.PrintWords Go.Proofs.YtfgnjndfnijjoaaGreatW.PrintLast Go.Proofs.YtfgnjndfnijjoaaGreatW.PrintMore
attribute [local go_sem] dJ dK eF eG cZ dc dL dM
attribute [local go_sem] bH
set_option linter.unusedVariables false
set_option linter.unusedSimpArgs false
def iO.g : List Bool → List Int → List Int → Option (List Int × Int)
  | [], _, l => some (l, 0)
  | false :: bs, rs, l => iO.g bs rs (l ++ [0])
  | true :: bs, rs, l => match rs with
    | [] => none
    | x :: rs => (j8.f x 0).bind fun z => if z = true then some ([], 5) else iO.g bs rs (l ++ [x])
def iO.f (k : Nat) (s : ByteArray) (n : Int) : Option (List Int × Int) :=
  (dg.f s).bind fun c => if c.2.2 ≠ 0 then some ([], c.2.2) else (ck.f k c.1 n).bind fun f => if f.2 ≠ 0 then some ([], f.2) else
    (cD.f k f.1).bind fun cnt => (eW.f c.2.1 cnt).bind fun rs => if rs.2 ≠ 0 then some ([], rs.2) else if f.1.length ≤ 100000 then iO.g f.1 rs.1 [] else none
def bI.f (k : Nat) (a0 : ByteArray) (a1 : Int) : Option (List Int × Int) := (iO.f k a0 a1).bind fun r => if r.2 ≠ 0 then some ([], r.2) else some (r.1, 0)
theorem iO.mono (k : Nat) (s : ByteArray) (n : Int) : LeO (iO.f k s n) (iO.f (k + 1) s n) :=
  LeO.bind (LeO.refl _) fun c => LeO.ite (LeO.refl _) (LeO.bind (ck.mono _ _ _) fun f => LeO.ite (LeO.refl _) (LeO.bind (cD.mono _ _) fun cnt => LeO.refl _))
theorem bI.mono : ∀ a0 a1 k, LeO (bI.f k a0 a1) (bI.f (k + 1) a0 a1) := fun a0 a1 k => LeO.bind (iO.mono _ _ _) fun r => LeO.refl _
structure TkI (w0 W0 : World) (pl : Nat) (v : Value) (l : List Int) (W : World) : Prop where
  K : bE W0 W pl none
  L : W.heap[pl]? = some (.cells #[v] 23 (0, 0))
  R : Kd.R Kd.flt 49 W w0.heap.size (fun k => W0.heap.size ≤ k) v l
  B : Below w0.heap.size w0 W
  z : pl < W0.heap.size
  g : w0.heap.size ≤ pl
section
variable {w0 W0 W W' : World} {pl : Nat} {v v' : Value} {l l' : List Int}
theorem TkI.below (h : TkI w0 W0 pl v l W) (hb : Below W.heap.size W W') : TkI w0 W0 pl v l W' :=
  ⟨h.K.trans (bE.of_below hb pl none) (.inl rfl), aX h.L hb, Kd.gG h.R hb, aM h.B hb, h.z, h.g⟩
theorem TkI.app (h : TkI w0 W0 pl v l W) (hg : W.grownBy W' v.ownBlock) (hB : Below w0.heap.size w0 W') (hR : Kd.R Kd.flt 49 W' w0.heap.size (fun k => W0.heap.size ≤ k) v' l') : TkI w0 W0 pl v' l' (W'.setCell ⟨pl, 0, none⟩ v') := by
 have hne : some pl ≠ v.ownBlock := Kd.nY h.R (fun k hk => by have := h.z; omega); refine ⟨(h.K.trans (bE.rT hg pl) ?_).kL 0 _, jt (eL h.L hg hne) 0 _, Kd.eu hR (fun k hk => by have := h.z; show k ≠ pl; omega) _, hB.setCell (p := ⟨pl, 0, none⟩) h.g _, h.z, h.g⟩
 cases hv : v.ownBlock with
 | none => exact .inl rfl
 | some b => exact .inr ⟨b, rfl, h.R.1 b hv⟩
theorem TkI.first (hl : W.heap[pl]? = some (.cells #[.slice none 0 0] 23 (0, 0))) (hB : Below w0.heap.size w0 W) (hg : w0.heap.size ≤ pl) (hb : Below W.heap.size W W') : TkI w0 W' pl (.slice none 0 0) [] W' :=
  ⟨bE.refl _ _ _, aX hl hb, Kd.iE _ _ _ _ _, aM hB hb, cY (aX hl hb), hg⟩
theorem TkI.F (h : TkI w0 W0 pl v l W) {α : Type} {d : Kd α} {A : Option Addr} {n : Nat} {xs : List α} (hF : Kd.F d W0 (fun k => k ≠ pl) A n xs) : d.C W A n xs := hF W fun k hk hlt => h.K.2 k hlt hk (by simp)
end
theorem FG {d : Kd Int} {W : World} {ok : Nat → Prop} {A : Option Addr} {xs : List Int} {c m : Nat} (h : Kd.F d W ok A xs.length xs) (hm : m ≤ xs.length) (hc : xs.length ≤ c) : Kd.F d W ok (if c = m then A else A.map (·.add (m * d.sz))) (xs.drop m).length (xs.drop m) := fun W' hW => Kd.AA (h W' hW) hm hc
def OY (w0 W0 : World) (pl : Nat) (r : List Int × Int) (e : Ending) (W' : World) : Prop :=
  (r.2 = 0 ∧ e = .returned (.tuple #[]) ∧ ∃ v, TkI w0 W0 pl v r.1 W') ∨ (r.2 ≠ 0 ∧ e = .panicked (iI r.2) ∧ ∃ v l, TkI w0 W0 pl v l W')
theorem K2 {w : World} {A : Option Addr} {n : Nat} {xs : List Bool} (h : Kd.C Kd.bool w A n xs) (i : Int) (h0 : 0 ≤ i) (h1 : i < n) : ∃ ad, A = some ad ∧ w.cell? (ad.add i.toNat) = some (.bool (xs.getD i.toNat false)) := by
 obtain ⟨ad, c, e, _, hK, hc0⟩ := Kd.pI h false i h0 h1; have hc : ∀ j u, c[j]? = some u → w.cell? (ad.add (i.toNat * 1 + j)) = some u := hc0; obtain rfl := hK; exact ⟨ad, e, by have hq := hc 0 _ rfl; rwa [Nat.mul_one, Nat.add_zero] at hq⟩
def oTk.T8 : Bool × List (List Nat × List Nat) := (true, [([], []), ([0], [0]), ([1], [1]), ([], []), ([3], [3]), ([2, 0, 1, 2], [2]), ([4, 5, 0, 1, 2, 3, 4, 5], [0, 3, 4])])
def oTk.B8 : List Nat := [0, 1, 3, 0, 8, 7, 63]
theorem oTk.Hq : gU .any (opsOf Tryz.f72 8) = oTk.T8 := by kernel_rfl
theorem oTk.Ex : iT oTk.T8.2 oTk.B8 = true := by kernel_rfl
set_option maxHeartbeats 8000000 in
set_option maxRecDepth 100000 in
theorem iO.calls (k : Nat) (s : ByteArray) (n : Int) (r : List Int × Int) (ps pn pl : Nat) (w0 W : World) (hs : W.heap[ps]? = some (.cells #[.string s] 9 (0, 0))) (hn : W.heap[pn]? = some (.cells #[.int .i64 n] 3 (0, 0))) (hl : W.heap[pl]? = some (.cells #[.slice none 0 0] 23 (0, 0)))
    (hB : Below w0.heap.size w0 W) (hg : w0.heap.size ≤ pl) (h : iO.f k s n = some r) :
    Calls Tryz.prog 72 #[.pointer (some ⟨ps, 0, none⟩), .pointer (some ⟨pn, 0, none⟩), .pointer (some ⟨pl, 0, none⟩)] W fun e W' => ∃ W0, Below W.heap.size W W0 ∧ OY w0 W0 pl r e W' := by
 have hs0 : W.cell? ⟨ps, 0, none⟩ = some (.string s) := (af hs 0).trans rfl; have HX := Aside0.mk (And.intro hs (And.intro hn (And.intro hl (And.intro hB hg)))); unfold iO.f at h; obtain ⟨⟨a, b, ec⟩, H1, h⟩ := Option.bind_eq_some_iff.mp h; dsimp only at h; have A1 := Aside0.mk H1; have H := Aside0.mk h; clear h H1 hs hn hl hB hg
 by_cases he : ec = 0
 case neg =>
  have h := H.out; rw [if_pos he] at h; obtain rfl := Option.some.inj h; have HE := Aside0.mk he; clear h H he; go_enter Tryz.func72, Tryz.ntmps72
  go_wp2_with (go_at_call 57; (with_reducible refine (yf s a b ec _ A1.out HE.out).mono ?_); rintro e_ w1 ⟨rfl, hb⟩)
  refine ⟨rfl, w1, hb, .inr ⟨HE.out, rfl, _, _, TkI.first HX.out.2.2.1 HX.out.2.2.2.1 HX.out.2.2.2.2 hb⟩⟩
 subst he; have h := H.out; rw [if_neg (by simp)] at h; obtain ⟨⟨bs, ef⟩, H2, h⟩ := Option.bind_eq_some_iff.mp h; dsimp only at h; have A2 := Aside0.mk H2; clear H; have H := Aside0.mk h; clear h H2
 by_cases he : ef = 0
 case neg =>
  have h := H.out; rw [if_pos he] at h; obtain rfl := Option.some.inj h; have HE := Aside0.mk he; clear h H he; go_enter Tryz.func72, Tryz.ntmps72
  go_wp2_with (first | (go_at_call 57; (with_reducible refine (qK s a b _ A1.out).mono ?_); rintro e_ w1 ⟨rfl, hb⟩; have HY := Aside0.mk hb; have hn1 : w1.cell? ⟨pn, 0, none⟩ = some (.int .i64 n) := (af (aX HX.out.2.1 hb) 0).trans rfl; clear hb) | (go_at_call 74; (with_reducible refine (ck.calls k a n bs ef _ A2.out).mono ?_); rintro e_ w2 ⟨v5, rfl, hR5, hb⟩; have HZ := Aside0.mk (aM HY.out hb); clear hb hn1) | (go_at_call 73; refine (Br _ ef _ HE.out).mono ?_; rintro e_ w3 ⟨rfl, hw3⟩; subst hw3))
  exact ⟨rfl, _, HZ.out, .inr ⟨HE.out, rfl, _, _, TkI.first HX.out.2.2.1 HX.out.2.2.2.1 HX.out.2.2.2.2 HZ.out⟩⟩
 subst he; have h := H.out; rw [if_neg (by simp)] at h; obtain ⟨cnt, H3, h⟩ := Option.bind_eq_some_iff.mp h; obtain ⟨⟨rs, er⟩, H4, h⟩ := Option.bind_eq_some_iff.mp h; dsimp only at h; have A3 := Aside0.mk H3; have A4 := Aside0.mk H4; clear H; have H := Aside0.mk h; clear h H3 H4
 by_cases he : er = 0
 case neg =>
  have h := H.out; rw [if_pos he] at h; obtain rfl := Option.some.inj h; have HE := Aside0.mk he; clear h H he; go_enter Tryz.func72, Tryz.ntmps72
  go_wp2_with (first | (go_at_call 57; (with_reducible refine (qK s a b _ A1.out).mono ?_); rintro e_ w1 ⟨rfl, hb⟩; have HY := Aside0.mk hb; have hn1 : w1.cell? ⟨pn, 0, none⟩ = some (.int .i64 n) := (af (aX HX.out.2.1 hb) 0).trans rfl; clear hb) | (go_at_call 74; (with_reducible refine (ck.calls k a n bs 0 _ A2.out).mono ?_); rintro e_ w2 ⟨v5, rfl, hR5, hb⟩; obtain ⟨A5, c5, e5⟩ := Kd.bu hR5; subst e5; have HR5 := Aside0.mk (Kd.mR hR5 (aX HX.out.2.2.1 HY.out)); have HZ := Aside0.mk (aM HY.out hb); clear hb hn1 hR5) | (go_at_call 73; refine (tH _ _).mono ?_; rintro e_ w3 ⟨rfl, hw3⟩; subst hw3) | (go_at_call 76; (with_reducible refine (cD.calls k _ _ bs cnt _ ?s1 ?s2 A3.out).mono ?_); (case s1 => exact (Kd.av HR5.out).2.2); (case s2 => exact (Kd.av HR5.out).2.1); rintro e_ w4 ⟨rfl, hd⟩; have n0_ := Aside0.mk (Kd.gG HR5.out (j9 hd)); have n1_ := Aside0.mk (aM HZ.out (j9 hd)); clear HR5 HZ hd; have HR5 := n0_; have HZ := n1_; clear n0_ n1_) | (go_at_call 75; (with_reducible refine (eW.calls b cnt rs er _ A4.out).mono ?_); rintro e_ w5 ⟨v6, rfl, hR6, hb⟩; have n0_ := Aside0.mk (Kd.gG HR5.out hb); have n1_ := Aside0.mk (aM HZ.out hb); clear HR5 HZ hb hR6; have HR5 := n0_; have HZ := n1_; clear n0_ n1_) | (go_at_call 64; refine (uQ _ er _ HE.out).mono ?_; rintro e_ w6 ⟨rfl, hw6⟩; subst hw6))
  exact ⟨rfl, _, HZ.out, .inr ⟨HE.out, rfl, _, _, TkI.first HX.out.2.2.1 HX.out.2.2.2.1 HX.out.2.2.2.2 HZ.out⟩⟩
 subst he; have h := H.out; rw [if_neg (by simp)] at h
 by_cases hlen : bs.length ≤ 100000
 case neg => rw [if_neg hlen] at h; exact absurd h (by simp)
 rw [if_pos hlen] at h; clear H; have H := Aside0.mk h; have HN := Aside0.mk hlen; clear h hlen; go_enter Tryz.func72, Tryz.ntmps72
 go_wp2_with (first | (go_at_call 57; (with_reducible refine (qK s a b _ A1.out).mono ?_); rintro e_ w1 ⟨rfl, hb⟩; have HY := Aside0.mk hb; have hn1 : w1.cell? ⟨pn, 0, none⟩ = some (.int .i64 n) := (af (aX HX.out.2.1 hb) 0).trans rfl; clear hb) | (go_at_call 74; (with_reducible refine (ck.calls k a n bs 0 _ A2.out).mono ?_); rintro e_ w2 ⟨v5, rfl, hR5, hb⟩; obtain ⟨A5, c5, e5⟩ := Kd.bu hR5; subst e5; have HR5 := Aside0.mk (Kd.mR hR5 (aX HX.out.2.2.1 HY.out)); have HZ := Aside0.mk (aM HY.out hb); clear hb hn1 hR5) | (go_at_call 73; refine (tH _ _).mono ?_; rintro e_ w3 ⟨rfl, hw3⟩; subst hw3) | (go_at_call 76; (with_reducible refine (cD.calls k _ _ bs cnt _ ?s1 ?s2 A3.out).mono ?_); (case s1 => exact (Kd.av HR5.out).2.2); (case s2 => exact (Kd.av HR5.out).2.1); rintro e_ w4 ⟨rfl, hd⟩; have n0_ := Aside0.mk (Kd.gG HR5.out (j9 hd)); have n1_ := Aside0.mk (aM HZ.out (j9 hd)); clear HR5 HZ hd; have HR5 := n0_; have HZ := n1_; clear n0_ n1_) | (go_at_call 75; (with_reducible refine (eW.calls b cnt rs 0 _ A4.out).mono ?_); rintro e_ w5 ⟨v6, rfl, hR6, hb⟩; obtain ⟨A6, c6, e6⟩ := Kd.bu hR6; subst e6; have HR6 := Aside0.mk (Kd.mR hR6 (aX HX.out.2.2.1 HZ.out)); have n0_ := Aside0.mk (Kd.gG HR5.out hb); have n1_ := Aside0.mk (aM HZ.out hb); clear HR5 HZ hb hR6; have HR5 := n0_; have HZ := n1_; clear n0_ n1_) | (go_at_call 64; refine (uP _ _).mono ?_; rintro e_ W0 ⟨rfl, hw6⟩; subst hw6))
 have F5 := Aside0.mk (show Kd.F Kd.bool W0 (fun k => k ≠ pl) A5 bs.length bs from fun W' hW => Kd.R_F (Kd.au HR5.out (fun _ h => h.2)) W' hW); have F6 := Aside0.mk (show Kd.F Kd.flt W0 (fun k => k ≠ pl) A6 rs.length rs from fun W' hW => Kd.R_F (Kd.au HR6.out (fun _ h => h.2)) W' hW); have C6 := Aside0.mk (Kd.av HR6.out).2.1; have T := Aside0.mk (TkI.first HX.out.2.2.1 HX.out.2.2.2.1 HX.out.2.2.2.2 HZ.out); clear HR5 HR6
 go_loopg [6, 30] (bs.length + 1) (fun kq v6 v30 w' => ∃ (i : Nat) (xs acc : List Int) (A : Option Addr) (c : Nat) (v : Value), v6 = .slice A xs.length c ∧ v30 = .int .i64 (i : Int) ∧ Aside0 (kq + i = bs.length + 1 ∧ i ≤ bs.length) ∧ Aside0 (iO.g (bs.drop i) xs acc = some r) ∧ Aside0 (Kd.F Kd.flt W0 (fun k => k ≠ pl) A xs.length xs ∧ xs.length ≤ c) ∧ Aside0 (TkI w0 W0 pl v acc w') ∧ Aside0 (acc.length = i))
 case atStart => exact ⟨0, rs, [], A6, c6, .slice none 0 0, rfl, rfl, ⟨by omega⟩, H, ⟨F6.out, C6.out⟩, T, ⟨rfl⟩⟩
 case round =>
  clear T H F6 C6; obtain ⟨i, xs, acc, A, c, v, rfl, rfl, HK, H, FX, T, HL⟩ := hrel; have hk9 := HK.out; have hn9 := HN.out
  cases gk with
  | zero => omega
  | succ k1 =>
   by_cases hi : i < bs.length
   ·
    have d1 : decide ((i : Int) < (bs.length : Int)) = true := decide_eq_true (by omega); have hl9 : acc.length ≤ 100000 := by have := HL.out; omega
    have hdrop : bs.drop i = bs.getD i false :: bs.drop (i + 1) := by
     rw [List.drop_eq_getElem_cons hi]
     congr 1
     simp [List.getD_eq_getElem?_getD, hi]
    obtain ⟨bv, hbv⟩ : ∃ z, bs.getD i false = z := ⟨_, rfl⟩; have p0 : (0 : Int) ≤ (i : Int) := by omega
    have q0 : (i : Int) < (bs.length : Int) := by omega
    obtain ⟨ad5, e5, hx5⟩ := K2 (T.out.F F5.out) (i : Int) p0 q0; rw [Int.toNat_natCast, hbv] at hx5; have hG := H.out; rw [hdrop, hbv] at hG; have hc0 : wr.cell? ⟨pl, 0, none⟩ = some v := (af T.out.L 0).trans rfl; subst e5; replace p0 := eq_true p0; replace q0 := eq_true q0; clear H hdrop hbv
    cases bv with
    | false =>
     have H := Aside0.mk (show iO.g (bs.drop (i + 1)) xs (acc ++ [0]) = some r from hG); clear hG
     go_wp2_with (first | ((with_reducible refine eB (b := .append) (xs := #[.tmp 43, .tmp 45]) rfl ?_); at_builtin; refine Kd.gQ Kd.flt (w0 := w0) w0.heap.size rfl (.tmp 43) (.tmp 45) 23 49 (.float .f64 0) 8 rfl Tryz.underlying23 (by kernel_rfl) rfl (by decide) (by omega) v acc 0 [.float .f64 0] (fun k => W0.heap.size ≤ k) (fun _ => False) rfl rfl ?aP (fun _ hk => hk.elim) ?aF ?aO ?aB ?aS ?aL ?_; (case aP => exact ⟨_, rfl, vW 0 0 (by kernel_rfl)⟩); (case aB => exact T.out.B); (case aF => intro k hk; exact Nat.le_trans T.out.K.1 hk); (case aO => exact T.out.R); (case aS => exact T.out.B.size); (case aL => omega); intro v1_ w9 ho hb hg hat; obtain ⟨A9, c9, e9⟩ := Kd.bu ho; subst e9; have hL9 := eL T.out.L hg (Kd.nY T.out.R (fun k hk => by have := T.out.z; omega)); have hc9 : w9.cell? ⟨pl, 0, none⟩ = some v := (af hL9 0).trans rfl; have hf9 := aj hL9 0; have n0_ := Aside0.mk (T.out.app hg hb ho); clear T ho hb hg hat hL9 hc0; have T := n0_; clear n0_))
     go_roundg k1
     case measure => have := HK.out; omega
     case rel => exact ⟨i + 1, xs, acc ++ [0], A, c, _, rfl, by first | rfl | simp | (simp [wrap64]; omega), ⟨by have := HK.out; omega⟩, H, FX, ⟨by have h := T.out; rw [show (acc ++ [(0 : Int)]).length = acc.length + 1 by simp] at h; exact h⟩, ⟨by have := HL.out; simp; omega⟩⟩
    | true =>
     cases xs with
     | nil => exact absurd hG (by simp [iO.g])
     | cons x xs =>
      have hG2 : ((j8.f x 0).bind fun z => if z = true then some ([], 5) else iO.g (bs.drop (i + 1)) xs (acc ++ [x])) = some r := hG; obtain ⟨z, H5, hG3⟩ := Option.bind_eq_some_iff.mp hG2; have A5 := Aside0.mk H5; have H := Aside0.mk hG3; clear hG hG2 H5 hG3; obtain ⟨ad6, b0, e6, hx6, hq6⟩ := AU (T.out.F FX.out.1) 0 (by omega) (by simp); subst e6; simp only [List.getD_cons_zero, Int.toNat_zero] at hq6 hx6; rw [Addr.add_zero'] at hx6; have Q6 := Aside0.mk hq6; obtain ⟨i0, hi0, _, hsz0, _⟩ := info_parts AP; have hcut := uY (P := Tryz.prog) 23 49 .i64 Tryz.underlying23 hi0 1 hsz0 (some ad6) (x :: xs).length c 1 (by omega) (by simp; omega); have hFd := FG (m := 1) FX.out.1 (by simp) FX.out.2; obtain ⟨A', hA'⟩ : ∃ A1, A1 = (if c = 1 then some ad6 else (some ad6).map (·.add (1 * 1))) := ⟨_, rfl⟩; obtain ⟨c', hc'⟩ : ∃ c1, c1 = c - 1 := ⟨_, rfl⟩; have FX' := Aside0.mk (show Kd.F Kd.flt W0 (fun k => k ≠ pl) A' xs.length xs ∧ xs.length ≤ c' from ⟨by rw [hA']; exact hFd, by rw [hc']; have := FX.out.2; simp at this; omega⟩); have hcut2 : ∀ W : World, (Instr.slice 23 (.slice (some ad6) (x :: xs).length c) (some (.int .i64 1)) none none).run Tryz.prog W = .ok (.slice A' xs.length c') W := fun W => by rw [hcut W, hA', hc']; simp
      obtain ⟨nx, hnx⟩ : ∃ m, m = (x :: xs).length := ⟨_, rfl⟩; have hp6 : 0 < nx := by rw [hnx]; simp
      have hp7 : (0 : Int) < (nx : Int) := by omega
      rw [← hnx] at hcut2 ⊢; clear hcut hFd hA' hc' hi0 hsz0 hq6 FX hnx
      go_wp2
      refine iZ (n := 7) (S := fun w' => w'.cell? ad6 = some (.float .f64 b0)) (ds := []) (dn 7 0) (by kernel_rfl) rfl (by kernel_rfl) hx6 (fun hHeld => ?_); refine gR oTk.Hq oTk.Ex (fun HT_ HW_ => ?_); refine pz 0 35 (dn 7 1) rfl rfl HT_ ?_; refine pz 1 36 (dn 7 3) rfl rfl HT_ ?_; refine pz 3 38 (dn 7 11) rfl rfl HT_ ?_; refine pz 4 39 (dn 7 27) rfl rfl HT_ ?_; refine fY (i := 2) (N := some 37) (v := ?_) (a' := ?_) (dn 7 31) rfl rfl (dN HT_.out HW_.out (by kernel_rfl)) (fun _ _ _ h => h) (Or.inl ⟨by rfl, ?_⟩) hHeld ?_ ?_; rotate_left
      ·
       intro w' s0
       go_simp
       with_reducible rfl
      rotate_left
      ·
       simp only [Act.put, List.setIfInBounds_toArray, List.set_cons_zero, List.set_cons_succ, bN, bR]
       rfl
      refine pz 5 9 (dn 7 63) rfl rfl HT_ ?_; refine pz 6 6 (dn 7 127) rfl rfl HT_ ?_; refine jF (iS HT_.out (by kernel_rfl)) ?_; clear hHeld; generalize hW8 : wr.drew = w8; have n0_ := Aside0.mk (T.out.below (show Below wr.heap.size wr w8 by rw [← hW8]; exact bw (Below.refl _ _))); clear hW8 T hc0 hx5 hx6 hcut2; have T := n0_; clear n0_
      cases z with
      | true =>
       have hr := H.out; rw [if_pos rfl] at hr; obtain rfl := Option.some.inj hr; clear hr H
       go_wp2_with (first | (go_at_call 77; (with_reducible refine (j8.calls b0 x 0 0 true _ Q6.out (vW 0 0 (by kernel_rfl)) A5.out).mono ?_); rintro e_ w7 ⟨rfl, hb⟩; have n0_ := Aside0.mk (T.out.below hb); clear T hb; have T := n0_; clear n0_) | (go_at_call 66; refine (jy 5 _ (by decide)).mono ?_; rintro e_ w6 ⟨rfl, hw6⟩; subst hw6))
       exact ⟨rfl, W0, HZ.out, .inr ⟨by decide, rfl, _, _, T.out⟩⟩
      | false =>
       have hr := H.out; rw [if_neg (by decide)] at hr; have H := Aside0.mk hr; clear hr
       go_wp2_with (first | (go_at_call 77; (with_reducible refine (j8.calls b0 x 0 0 false _ Q6.out (vW 0 0 (by kernel_rfl)) A5.out).mono ?_); rintro e_ w7 ⟨rfl, hb⟩; have n0_ := Aside0.mk (T.out.below hb); clear T hb; have T := n0_; clear n0_; have hc0 : w7.cell? ⟨pl, 0, none⟩ = some v := (af T.out.L 0).trans rfl) | ((with_reducible refine eB (b := .append) (xs := #[.tmp 43, .tmp 45]) rfl ?_); at_builtin; refine Kd.gQ Kd.flt (w0 := w0) w0.heap.size rfl (.tmp 43) (.tmp 45) 23 49 (.float .f64 0) 8 rfl Tryz.underlying23 (by kernel_rfl) rfl (by decide) (by omega) v acc x [.float .f64 b0] (fun k => W0.heap.size ≤ k) (fun _ => False) rfl rfl ?aP (fun _ hk => hk.elim) ?aF ?aO ?aB ?aS ?aL ?_; (case aP => exact ⟨_, rfl, Q6.out⟩); (case aB => exact T.out.B); (case aF => intro k hk; exact Nat.le_trans T.out.K.1 hk); (case aO => exact T.out.R); (case aS => exact T.out.B.size); (case aL => omega); intro v1_ w9 ho hb hg hat; obtain ⟨A9, c9, e9⟩ := Kd.bu ho; subst e9; have hL9 := eL T.out.L hg (Kd.nY T.out.R (fun k hk => by have := T.out.z; omega)); have hc9 : w9.cell? ⟨pl, 0, none⟩ = some v := (af hL9 0).trans rfl; have hf9 := aj hL9 0; have n0_ := Aside0.mk (T.out.app hg hb ho); clear T ho hb hg hat hL9 hc0; have T := n0_; clear n0_))
       go_roundg k1
       case measure => have := HK.out; omega
       case rel => exact ⟨i + 1, xs, acc ++ [x], A', c', _, rfl, by first | rfl | simp | (simp [wrap64]; omega), ⟨by have := HK.out; omega⟩, H, FX', ⟨by have h := T.out; rw [show (acc ++ [x]).length = acc.length + 1 by simp] at h; exact h⟩, ⟨by have := HL.out; simp; omega⟩⟩
   ·
    have d1 : decide ((i : Int) < (bs.length : Int)) = false := decide_eq_false (by omega); have hG := H.out; rw [List.drop_eq_nil_of_le (by omega)] at hG; obtain rfl := Option.some.inj hG; clear hG H
    go_wp2
    go_end0
    exact ⟨W0, HZ.out, .inl ⟨rfl, rfl, _, T.out⟩⟩
theorem Bx (args : Array Value) (W : World) : (callFunc 72 args).run Tryz.prog W = .ok (.enter 72 args) W := by
 simp [go_sem, Tryz.func72]
set_option maxHeartbeats 8000000 in
set_option maxRecDepth 100000 in
theorem bI.calls (k : Nat) (a0 : ByteArray) (a1 : Int) (r1 : List Int) (r2 : Int) (w : World) (h : bI.f k a0 a1 = some (r1, r2)) :
    Calls Tryz.prog 23 #[.string a0, .int .i64 a1] w fun e w' => ∃ v0_ : Value, e = .returned (.tuple #[v0_, .int .i64 r2]) ∧ Kd.R Kd.flt 49 w' w.heap.size (fun _ => True) v0_ r1 ∧ Below w.heap.size w w' := by
  unfold bI.f at h
  obtain ⟨r, H1, h⟩ := Option.bind_eq_some_iff.mp h
  have hmf : ∀ (fn : Fn) (first cap : Array Value) (w : World), (Instr.makeFunc fn first cap).run Tryz.prog w = .ok (.func fn first cap) w := fun _ _ _ _ => rfl
  obtain ⟨wg, hwg⟩ : ∃ W, W = ((w.alloc (.cells #[.string a0] 9)).alloc (.cells #[.int .i64 a1] 3)).alloc (.cells #[.slice none 0 0] 23) := ⟨_, rfl⟩
  have hzg : wg.heap.size = w.heap.size + 2 + 1 := by rw [hwg]; simp
  have hs : wg.heap[w.heap.size]? = some (.cells #[.string a0] 9 (0, 0)) := by rw [hwg]; exact bx (bx (eJ w _) _) _
  have hn : wg.heap[w.heap.size + 1]? = some (.cells #[.int .i64 a1] 3 (0, 0)) := by
    have := eJ (w.alloc (.cells #[.string a0] 9)) (.cells #[.int .i64 a1] 3)
    rw [hwg]
    refine bx ?_ _
    simpa using this
  have hl : wg.heap[w.heap.size + 1 + 1]? = some (.cells #[.slice none 0 0] 23 (0, 0)) := by
    have := eJ ((w.alloc (.cells #[.string a0] 9)).alloc (.cells #[.int .i64 a1] 3)) (.cells #[.slice none 0 0] 23)
    rw [hwg]
    simpa using this
  have hBg : Below w.heap.size w wg := by rw [hwg]; exact aH (aH (aH (Below.refl _ _) _) _) _
  have HC := iO.calls k a0 a1 r w.heap.size (w.heap.size + 1) (w.heap.size + 1 + 1) w (wg.alloc (.cells #[.int .i64 0] 27)) (bx hs _) (bx hn _) (bx hl _) (aH hBg _) (by omega) H1
  have hpe : ∀ W0 v l w', Below (wg.alloc (.cells #[.int .i64 0] 27)).heap.size (wg.alloc (.cells #[.int .i64 0] 27)) W0 → TkI w W0 (w.heap.size + 1 + 1) v l w' → w'.heap[wg.heap.size]? = some (.cells #[.int .i64 0] 27 (0, 0)) ∧ wg.heap.size < W0.heap.size := fun W0 v l w' hb hT => by
    have h1 := aX (eJ wg (.cells #[.int .i64 0] 27)) hb
    have h2 := cY h1
    exact ⟨(hT.K.2 _ h2 (by omega) (by simp)).trans h1, h2⟩
  by_cases he : r.2 = 0
  · rw [if_neg (fun h => h he)] at h
    obtain ⟨rfl, rfl⟩ := by simpa using h
    have G := wF 72 #[.pointer (some ⟨w.heap.size, 0, none⟩), .pointer (some ⟨w.heap.size + 1, 0, none⟩), .pointer (some ⟨w.heap.size + 1 + 1, 0, none⟩)] wg (fun w' => ∃ W0 v, Below (wg.alloc (.cells #[.int .i64 0] 27)).heap.size (wg.alloc (.cells #[.int .i64 0] 27)) W0 ∧ TkI w W0 (w.heap.size + 1 + 1) v r.1 w')
      (HC.mono fun e w' ⟨W0, hb, hE⟩ => by
        rcases hE with ⟨_, rfl, v, hT⟩ | ⟨hne, _⟩
        · exact ⟨rfl, W0, v, hb, hT⟩
        · exact absurd he hne) (Bx _) (fun w' ⟨W0, v, hb, hT⟩ => (hpe W0 v _ w' hb hT).1)
    have G' := Aside0.mk G
    have HP := Aside0.mk hpe
    have HZ := Aside0.mk hzg
    clear G HC hs hn hl hBg h H1 hpe hzg he
    go_enter Tryz.func23, Tryz.ntmps23
    have HW := Aside0.mk hwg
    clear hwg
    go_wp2_with fail
    rw [← HW.out]
    refine G'.out.mono ?_
    rintro e_ w1 ⟨rfl, w2, ⟨W0, v, hb, hT⟩, rfl⟩
    have hz := HZ.out
    obtain ⟨hI, hlt⟩ := HP.out W0 v r.1 w2 hb hT
    have hc0 : (w2.setCell ⟨wg.heap.size, 0, none⟩ (.int .i64 0)).cell? ⟨w.heap.size + 1 + 1, 0, none⟩ = some v := (af ((Below.heap_setCell _ _ _ _ (by show w.heap.size + 1 + 1 ≠ wg.heap.size; omega)).trans hT.L) 0).trans rfl
    have HT := Aside0.mk hT
    have HI := Aside0.mk hI
    have HL := Aside0.mk hlt
    clear hb hT hI hlt hz
    go_wp2
    have hw := HZ.out
    go_ret2
    exact ⟨_, rfl, Kd.au (Kd.eu HT.out.R (p := ⟨wg.heap.size, 0, none⟩) (fun k hk => by have := HL.out; show k ≠ wg.heap.size; omega) _) (fun _ _ => trivial), HT.out.B.setCell (p := ⟨wg.heap.size, 0, none⟩) (by show w.heap.size ≤ wg.heap.size; omega) _⟩
  · rw [if_pos he] at h
    obtain ⟨rfl, rfl⟩ := by simpa using h
    have G := sX 72 r.2 #[.pointer (some ⟨w.heap.size, 0, none⟩), .pointer (some ⟨w.heap.size + 1, 0, none⟩), .pointer (some ⟨w.heap.size + 1 + 1, 0, none⟩)] wg (fun w' => ∃ W0 v l, Below (wg.alloc (.cells #[.int .i64 0] 27)).heap.size (wg.alloc (.cells #[.int .i64 0] 27)) W0 ∧ TkI w W0 (w.heap.size + 1 + 1) v l w')
      (HC.mono fun e w' ⟨W0, hb, hE⟩ => by
        rcases hE with ⟨h0, _⟩ | ⟨_, rfl, v, l, hT⟩
        · exact absurd h0 he
        · exact ⟨rfl, W0, v, l, hb, hT⟩) (Bx _) (fun w' ⟨W0, v, l, hb, hT⟩ => (hpe W0 v _ w' hb hT).1)
    have G' := Aside0.mk G
    have HZ := Aside0.mk hzg
    have d1 : (r.2 != 0) = true := bne_iff_ne.mpr he
    have d2 : (r.2 == 0) = false := beq_eq_false_iff_ne.mpr he
    clear G HC hs hn hl hBg h H1 hpe hzg he
    go_enter Tryz.func23, Tryz.ntmps23
    have HW := Aside0.mk hwg
    clear hwg
    go_wp2_with fail
    rw [← HW.out]
    refine G'.out.mono ?_
    rintro e_ w1 ⟨rfl, w2, n, ⟨W0, v, l, hb, hT⟩, rfl⟩
    have HT := Aside0.mk hT
    clear hb hT
    go_wp2
    have hw := HZ.out
    go_ret2
    exact ⟨_, rfl, Kd.iE _ _ _ _ _, Below.setCell (p := ⟨wg.heap.size, 0, none⟩) (aG HT.out.B n) (by show w.heap.size ≤ wg.heap.size; omega) _⟩
def o9.f (a0 : Int) : Option (Int) := some (Go.bits .xor .i64 (wrap64 (a0 / 2)) (wrap64 (-(wrap64 (Go.bits .and .u64 a0 1)))))
set_option maxHeartbeats 8000000 in
set_option maxRecDepth 100000 in
theorem o9.calls (a0 : Int) (r : Int) (w : World) (h : o9.f a0 = some r) :
 Calls Tryz.prog 161 #[.int .u64 a0] w fun e w' => e = .returned (.int .i64 r) ∧ bP w w' := by
 have H := h; unfold o9.f at H; clear h; obtain rfl := Option.some.inj H; go_enter Tryz.func161, Tryz.ntmps161
 go_wp2
 go_ret
 exact ⟨by first | rfl | (simp; done) | (simp [*]; done), by repeat (first | exact bP.refl _ | apply bP.step)⟩
def jL.f (s0_0 : ByteArray) (s0_1 : Int) : Option (Int × ByteArray × Int) := (aJ.f s0_0 s0_1).bind fun EH => ((o9.f EH.1).bind fun Hy => (some (Hy, EH.2.1, EH.2.2)))
set_option maxHeartbeats 8000000 in
set_option maxRecDepth 100000 in
theorem jL.calls (g : Nat) (s0_0 : ByteArray) (s0_1 : Int) (r1 : Int) (r2 : ByteArray) (r3 : Int) (w0 w : World) (hI : ag w0 w g s0_0 s0_1) (hB : Below w0.heap.size w0 w) (h : jL.f s0_0 s0_1 = some (r1, r2, r3)) :
 Calls Tryz.prog 119 #[.pointer (some ⟨g, 0, none⟩)] w fun e w' => e = .returned (.int .i64 r1) ∧ ag w0 w' g r2 r3 ∧ Below w0.heap.size w0 w' ∧ bE w w' g none := by
 have HI0 := Aside0.mk hI; have HK := Aside0.mk (bE.refl w g none); have HL := Aside0.mk hB.size; clear hI; have HW0 := Aside0.mk hB.size; have HB := Aside0.mk hB; clear hB; have H := h; unfold jL.f at H; clear h; obtain ⟨⟨Hz, QM, QN⟩, A2, H⟩ := bnz H; (try dsimp only at H); obtain ⟨Hy, A3, H⟩ := bnz H; (try dsimp only at H); simp only [Option.some.injEq, Prod.mk.injEq] at H; obtain ⟨rfl, rfl, rfl⟩ := H; go_enter Tryz.func119, Tryz.ntmps119
 go_wp2_with (first | ((with_reducible refine ak (f := 41) rfl ?_); refine aD (some 4) rfl rfl Tryz.func41 (by kernel_rfl) rfl #[.pointer (some ⟨g, 0, none⟩)] rfl mz ?_; (with_reducible refine (aJ.calls g s0_0 s0_1 Hz QM QN w0 _ ?side1 ?side2 A2.out).mono ?_); (case side1 => exact ag.lz HI0.out); (case side2 => exact hz1 HB.out (ag.ge HI0.out)); rintro e w4 ⟨rfl, hi, hb, hk⟩; refine ⟨_, rfl, ?_⟩; replace HK := am (bE.trans (by repeat (first | (with_reducible first | exact HK.out | apply bE.kL | apply gi | apply jr | apply eK) | exact HK.out)) hk (.inl rfl)); replace HB := am (hb); replace HI0 := am (hi); (try clear hb); (try clear hb2); (try clear hk); (try clear hi)) | ((with_reducible refine ak (f := 161) rfl ?_); refine aD (some 5) rfl rfl Tryz.func161 (by kernel_rfl) rfl #[.int .u64 Hz] rfl mz ?_; (with_reducible refine (o9.calls Hz Hy _ A3.out).mono ?_); rintro e w' ⟨rfl, ⟨nd, rfl⟩⟩; refine ⟨_, rfl, ?_⟩))
 go_ret
 exact ⟨ez, ag.lz HI0.out, hz1 HB.out (ag.ge HI0.out), by repeat (first | (with_reducible first | exact HK.out | apply bE.kL | apply gi | apply jr | apply eK) | exact HK.out)⟩
def ek.l0 : Nat → List Int → Int → List Int → Int → Int → Option (List Int)
 | 0, _, _, _, _, _ => none
 | k + 1, x3, x4, x7, x8, x9 => if x9 < x8 then (if 0 ≤ x9 then (if x9 < (x7.length : Int) then (if x3.length < 17592186044416 then (ek.l0 k (x3 ++ [wrap64 (x4 + (rd x7 x9))]) (wrap64 (x4 + (rd x7 x9))) x7 x8 (wrap64 (x9 + 1))) else (none)) else (none)) else (none)) else (some x3)
def ek.f (k : Nat) (l0 : List Int) : Option (List Int) := ek.l0 k ([] : List Int) 0 l0 (l0.length : Int) 0
theorem ek.cF : ∀ k, (∀ y0 y1 y2 y3 y4, LeO (ek.l0 k y0 y1 y2 y3 y4) (ek.l0 (k + 1) y0 y1 y2 y3 y4))
 | 0 => fun _ _ _ _ _ r h => by simp [ek.l0] at h
 | k + 1 => by
  have ih0 := ek.cF k
  ·
   intro y0 y1 y2 y3 y4; unfold ek.l0
   repeat' first
   | (with_reducible exact ih0 _ _ _ _ _)
   | (with_reducible exact LeO.refl _)
   | (with_reducible exact LeO.none _)
   | (with_reducible refine LeO.ite ?_ ?_)
   | (with_reducible refine LeO.bind ?_ (fun _ => ?_))
theorem ek.mono : ∀ a0 k, LeO (ek.f k a0) (ek.f (k + 1) a0) := by
 intro a0 k; have ih0 := ek.cF k; unfold ek.f
 repeat' first
  | (with_reducible exact ih0 _ _ _ _ _)
  | (with_reducible exact LeO.refl _)
  | (with_reducible exact LeO.none _)
  | (with_reducible refine LeO.ite ?_ ?_)
  | (with_reducible refine LeO.bind ?_ (fun _ => ?_))
set_option maxHeartbeats 8000000 in
set_option maxRecDepth 100000 in
theorem ek.calls (k : Nat) (A0 : Option Addr) (c0 : Nat) (l0 : List Int) (r : List Int) (w : World) (hr0 : Kd.C (Kd.int .i64) w A0 l0.length l0) (hc0 : l0.length ≤ c0) (h : ek.f k l0 = some r) :
 Calls Tryz.prog 120 #[.slice A0 l0.length c0] w fun e w' => ∃ v0_ : Value, e = .returned (v0_) ∧ Kd.R (Kd.int .i64) 3 w' w.heap.size (fun _ => True) v0_ r ∧ Below w.heap.size w w' := by
 have HR0 := Aside0.mk hr0; have HC0 := Aside0.mk hc0; clear hr0 hc0; have HB := Aside0.mk (Below.refl w.heap.size w); have H := h; unfold ek.f at H; clear h; have H' := Aside0.mk H; clear H; go_enter Tryz.func120, Tryz.ntmps120
 go_wp2
 go_loopg [3, 4, 9] k (fun kq v3 v4 v9 w' => ∃ (bA : List Int) (gL : Int) (dQ : Int), v4 = .int .i64 gL ∧ v9 = .int .i64 dQ ∧ Aside0 (ek.l0 kq bA gL l0 (l0.length : Int) dQ = some r) ∧ Aside0 (kq ≤ k) ∧ Aside0 (Kd.R (Kd.int .i64) 3 w' w.heap.size (fun _ => True) v3 bA) ∧ Aside0 (Below w.heap.size w w'))
 case atStart => exact ⟨(([] : List Int)), (0), (0), sz, sz, H', ⟨Nat.le_refl _⟩, ⟨nz⟩, ⟨hz HB.out⟩⟩
 case round =>
  clear H'
  try clear c1
  obtain ⟨bA, gL, dQ, rfl, rfl, HA, HK1, HO_3, HB⟩ := hrel
  cases gk with
  | zero => exact absurd HA.out (by simp [ek.l0])
  | succ k1 =>
   have H := HA.out; clear HA; simp only [ek.l0] at H
   by_cases c2 : dQ < (l0.length : Int)
   ·
    rw [if_pos c2] at H; have jB := decide_eq_true c2; clear c2; obtain ⟨c3, H⟩ := ifz H; have gD : decide (0 ≤ dQ) = true := decide_eq_true c3; clear c3; obtain ⟨c4, H⟩ := ifz H; have iC : decide (dQ < (l0.length : Int)) = true := decide_eq_true c4; clear c4; obtain ⟨c5, H⟩ := ifz H; have GW := Aside0.mk c5; clear c5; obtain ⟨QO, EI⟩ : ∃ y_ : List Int, y_ = (bA ++ [wrap64 (gL + (rd l0 dQ))]) := ⟨_, rfl⟩; (try rw [← EI] at H); have OZ := Aside0.mk EI; clear EI; have H' := Aside0.mk H; clear H; have p273 : 0 ≤ (dQ : Int) := of_decide_eq_true az; have q273 : dQ < (l0.length : Int) := of_decide_eq_true az; obtain ⟨Uq, e273, Dd⟩ := Kd.jE HR0.out dQ p273 q273
    cases e273
    replace Dd := cz HB.out Dd; replace p273 := eq_true p273; replace q273 := eq_true q273
    go_wp2_with (first | ((with_reducible refine eB (b := .append) (xs := #[.tmp 16, .tmp 18]) rfl ?_); at_builtin; refine Kd.gQ (Kd.int .i64) (w0 := w) w.heap.size rfl (.tmp 16) (.tmp 18) 57 3 (.int .i64 0) 8 rfl Tryz.underlying57 info3 rfl (by decide) (by omega) u3 bA (wrap64 (gL + (rd l0 dQ))) [.int .i64 (wrap64 (gL + (rd l0 dQ)))] (fun _ => True) (fun _ => False) rfl rfl ?aP (fun _ hk => hk.elim) ?aF ?aO ?aB ?aS ?aL ?_; (case aP => exact rfl); (case aB => exact (hz HB.out)); (case aF => exact (fun _ _ => trivial)); (case aO => exact (rz HO_3.out)); (case aS => exact (ai (hz HB.out))); (case aL => have := GW.out; omega); intro v275 w6 ho hb hg hat; rw [← OZ.out] at ho; replace HB := am (hb); have O0 := am (ho); clear HO_3; clear ho hb hg hat))
    go_roundg k1
    case measure => have := HK1.out; omega
    case rel => exact ⟨(QO), (wrap64 (gL + (rd l0 dQ))), (wrap64 (dQ + 1)), sz, sz, H', ⟨by have := HK1.out; omega⟩, ⟨rz O0.out⟩, ⟨hz HB.out⟩⟩
   ·
    rw [if_neg c2] at H; have jB := decide_eq_false c2; clear c2; obtain rfl := Option.some.inj H
    go_wp2
    go_ret
    exact ⟨_, ez, by (with_reducible repeat (first | apply Kd.ay | apply Kd.aC | apply Kd.ax)); exact HO_3.out, hz HB.out⟩
def cG.l0 : Nat → List Int → Int → Int → ByteArray → Int → Option (List Int × Int)
 | 0, _, _, _, _, _ => none
 | k + 1, x7, x19, x20, x280000, x280001 => if x20 < x19 then ((jL.f x280000 x280001).bind fun EJ => (if x7.length < 17592186044416 then (cG.l0 k (x7 ++ [EJ.1]) x19 (wrap64 (x20 + 1)) EJ.2.1 EJ.2.2) else (none))) else ((eE.f x280000 x280001).bind fun Jt => (if Jt.1 = 0 then ((ek.f k x7).bind fun HV => (some (HV, 0))) else (some (([] : List Int), Jt.1))))
def cG.f (k : Nat) (a0 : ByteArray) (a1 : Int) : Option (List Int × Int) := if a1 < 0 then (some (([] : List Int), 1)) else (if a1 > (a0.size : Int) then (some (([] : List Int), 2)) else ((eD.f a0).bind fun Ju => (cG.l0 k ([] : List Int) a1 0 Ju.1 Ju.2)))
theorem cG.cF : ∀ k, (∀ y0 y1 y2 y3 y4, LeO (cG.l0 k y0 y1 y2 y3 y4) (cG.l0 (k + 1) y0 y1 y2 y3 y4))
 | 0 => fun _ _ _ _ _ r h => by simp [cG.l0] at h
 | k + 1 => by
  have ih0 := cG.cF k
  ·
   intro y0 y1 y2 y3 y4; unfold cG.l0
   repeat' first
   | (with_reducible exact ih0 _ _ _ _ _)
   | (with_reducible exact ek.mono _ _)
   | (with_reducible exact LeO.refl _)
   | (with_reducible exact LeO.none _)
   | (with_reducible refine LeO.ite ?_ ?_)
   | (with_reducible refine LeO.bind ?_ (fun _ => ?_))
theorem cG.mono : ∀ a0 a1 k, LeO (cG.f k a0 a1) (cG.f (k + 1) a0 a1) := by
 intro a0 a1 k; have ih0 := cG.cF k; unfold cG.f
 repeat' first
  | (with_reducible exact ih0 _ _ _ _ _)
  | (with_reducible exact ek.mono _ _)
  | (with_reducible exact LeO.refl _)
  | (with_reducible exact LeO.none _)
  | (with_reducible refine LeO.ite ?_ ?_)
  | (with_reducible refine LeO.bind ?_ (fun _ => ?_))
set_option maxHeartbeats 8000000 in
set_option maxRecDepth 100000 in
theorem cG.calls (k : Nat) (a0 : ByteArray) (a1 : Int) (r1 : List Int) (r2 : Int) (w : World) (h : cG.f k a0 a1 = some (r1, r2)) :
 Calls Tryz.prog 59 #[.string a0, .int .i64 a1] w fun e w' => ∃ v0_ : Value, e = .returned (.tuple #[v0_, .int .i64 r2]) ∧ Kd.R (Kd.int .i64) 3 w' w.heap.size (fun _ => True) v0_ r1 ∧ Below w.heap.size w w' := by
 have HB := Aside0.mk (Below.refl w.heap.size w); have H := h; unfold cG.f at H; clear h
 by_cases c3 : a1 < 0
 ·
  rw [if_pos c3] at H; have gD := decide_eq_true c3; clear c3; simp only [Option.some.injEq, Prod.mk.injEq] at H; obtain ⟨rfl, rfl⟩ := H; go_enter Tryz.func59, Tryz.ntmps59
  go_wp2
  go_ret2
  exact ⟨_, ez, nz, hz HB.out⟩
 ·
  rw [if_neg c3] at H; have gD := decide_eq_false c3; clear c3
  by_cases c4 : a1 > (a0.size : Int)
  ·
   rw [if_pos c4] at H; have iC : decide ((a0.size : Int) < a1) = true := decide_eq_true c4; clear c4; simp only [Option.some.injEq, Prod.mk.injEq] at H; obtain ⟨rfl, rfl⟩ := H; go_enter Tryz.func59, Tryz.ntmps59
   go_wp2
   go_ret2
   exact ⟨_, ez, nz, hz HB.out⟩
  ·
   rw [if_neg c4] at H; have iC : decide ((a0.size : Int) < a1) = false := decide_eq_false c4; clear c4; obtain ⟨⟨MG, MH⟩, A5, H⟩ := bnz H; (try dsimp only at H); have H' := Aside0.mk H; clear H; go_enter Tryz.func59, Tryz.ntmps59
   go_wp2_with (first | ((with_reducible refine ak (f := 40) rfl ?_); refine aD (some 18) rfl rfl Tryz.func40 (by kernel_rfl) rfl #[.string a0] rfl mz ?_; (with_reducible refine (eD.calls a0 MG MH w _ ?side1 A5.out).mono ?_); (case side1 => exact hz HB.out); rintro e w6 ⟨g279, rfl, hi, hb, hb2⟩; refine ⟨_, rfl, ?_⟩; replace HB := am (hb); have gO := am (hi); (try clear hb); (try clear hb2); (try clear hk); (try clear hi)))
   go_loopg [7, 20] k (fun kq v7 v20 w' => ∃ (bD : List Int) (wH : Int) (jM : ByteArray) (jN : Int), v20 = .int .i64 wH ∧ Aside0 (cG.l0 kq bD a1 wH jM jN = some (r1, r2)) ∧ Aside0 (kq ≤ k) ∧ Aside0 (Kd.R (Kd.int .i64) 3 w' w.heap.size (fun _ => True) v7 bD) ∧ Aside0 (ag w w' g279 jM jN) ∧ Aside0 (Below w.heap.size w w'))
   case atStart => exact ⟨(([] : List Int)), (0), (MG), (MH), sz, H', ⟨Nat.le_refl _⟩, ⟨nz⟩, ⟨ag.lz gO.out⟩, ⟨hz1 HB.out (ag.ge gO.out)⟩⟩
   case round =>
    clear H'
    try clear p2
    try clear c3
    try clear gD
    try clear c4
    try clear iC
    try clear c5
    obtain ⟨bD, wH, jM, jN, rfl, HA, HK1, HO_7, gO, HB⟩ := hrel
    cases gk with
    | zero => exact absurd HA.out (by simp [cG.l0])
    | succ k1 =>
     have H := HA.out; clear HA; simp only [cG.l0] at H
     by_cases c7 : wH < a1
     ·
      rw [if_pos c7] at H; have o6 := decide_eq_true c7; clear c7; obtain ⟨⟨EK, MI, MJ⟩, A8, H⟩ := bnz H; (try dsimp only at H); obtain ⟨c9, H⟩ := ifz H; have Hf := Aside0.mk c9; clear c9; obtain ⟨QS, EL⟩ : ∃ y_ : List Int, y_ = (bD ++ [EK]) := ⟨_, rfl⟩; (try rw [← EL] at H); have O1 := Aside0.mk EL; clear EL; have H' := Aside0.mk H; clear H
      go_wp2_with (first | ((with_reducible refine ak (f := 119) rfl ?_); refine aD (some 24) rfl rfl Tryz.func119 (by kernel_rfl) rfl #[.pointer (some ⟨g279, 0, none⟩)] rfl mz ?_; (with_reducible refine (jL.calls g279 jM jN EK MI MJ w _ ?side1 ?side2 A8.out).mono ?_); (case side1 => exact ag.lz gO.out); (case side2 => exact hz1 HB.out (ag.ge gO.out)); rintro e w10 ⟨rfl, hi, hb, hk⟩; refine ⟨_, rfl, ?_⟩; replace HO_7 := am (Kd.au (Kd.di (ag.apart (show ag w _ g279 jM jN from ag.lz gO.out) (rz HO_7.out) (by decide)) hk (fun _ h => h.2)) (fun _ h => h.1)); replace HB := am (hb); replace gO := am (hi); (try clear hb); (try clear hb2); (try clear hk); (try clear hi)) | ((with_reducible refine eB (b := .append) (xs := #[.tmp 22, .tmp 25]) rfl ?_); at_builtin; refine Kd.gQ (Kd.int .i64) (w0 := w) w.heap.size rfl (.tmp 22) (.tmp 25) 57 3 (.int .i64 0) 8 rfl Tryz.underlying57 info3 rfl (by decide) (by omega) u7 bD EK [.int .i64 EK] (fun _ => True) (fun _ => False) rfl rfl ?aP (fun _ hk => hk.elim) ?aF ?aO ?aB ?aS ?aL ?_; (case aP => exact rfl); (case aB => exact (hz1 HB.out (ag.ge gO.out))); (case aF => exact (fun _ _ => trivial)); (case aO => exact (rz HO_7.out)); (case aS => exact (ai (hz1 HB.out (ag.ge gO.out)))); (case aL => have := Hf.out; omega); intro v284 w11 ho hb hg hat; rw [← O1.out] at ho; replace gO := am (ag.grown (ag.lz gO.out) hg (ag.nW gO.out HO_7.out (by decide))); replace HB := am (hb); have O2 := am (ho); clear HO_7; clear ho hb hg hat))
      go_roundg k1
      case measure => have := HK1.out; omega
      case rel => exact ⟨(QS), (wrap64 (wH + 1)), (MI), (MJ), sz, H', ⟨by have := HK1.out; omega⟩, ⟨rz O2.out⟩, ⟨ag.lz gO.out⟩, ⟨hz1 HB.out (ag.ge gO.out)⟩⟩
     ·
      rw [if_neg c7] at H; have o6 := decide_eq_false c7; clear c7; obtain ⟨⟨vD, MK, ML⟩, A12, H⟩ := bnz H; (try dsimp only at H)
      by_cases c13 : vD = 0
      ·
       rw [if_pos c13] at H; have wq : (vD == 0) = true := beq_iff_eq.mpr c13; have wu : (vD != 0) = false := bne_eq_false_iff_eq.mpr c13; clear c13; obtain ⟨HV, A14, H⟩ := bnz H; (try dsimp only at H); simp only [Option.some.injEq, Prod.mk.injEq] at H; obtain ⟨rfl, rfl⟩ := H
       go_wp2_with (first | ((with_reducible refine ak (f := 90) rfl ?_); refine aD (some 29) rfl rfl Tryz.func90 (by kernel_rfl) rfl #[.pointer (some ⟨g279, 0, none⟩)] rfl mz ?_; (with_reducible refine (eE.calls g279 jM jN vD MK ML w _ ?side1 ?side2 A12.out).mono ?_); (case side1 => exact ag.lz gO.out); (case side2 => exact hz1 HB.out (ag.ge gO.out)); rintro e w15 ⟨rfl, hi, hb, hk⟩; refine ⟨_, rfl, ?_⟩; replace HO_7 := am (Kd.au (Kd.di (ag.apart (show ag w _ g279 jM jN from ag.lz gO.out) (rz HO_7.out) (by decide)) hk (fun _ h => h.2)) (fun _ h => h.1)); replace HB := am (hb); replace gO := am (hi); (try clear hb); (try clear hb2); (try clear hk); (try clear hi); obtain ⟨si, sj, Bh⟩ := Kd.bu HO_7.out; subst Bh) | ((with_reducible refine ak (f := 120) rfl ?_); refine aD (some 34) rfl rfl Tryz.func120 (by kernel_rfl) rfl #[.slice si bD.length sj] rfl mz ?_; (with_reducible refine (ek.calls k1 _ _ bD HV _ ?side1 ?side2 A14.out).mono ?_); (case side1 => repeat (first | exact (Kd.av HO_7.out).2.2 | (with_reducible refine Kd.bO ?_ _) | (with_reducible refine Kd.bQ ?_ _) | (with_reducible refine Kd.bZ ?_))); (case side2 => exact (Kd.av HO_7.out).2.1); rintro e w17 ⟨v290, rfl, ho0, hb⟩; refine ⟨_, rfl, ?_⟩; have O3 := am (Kd.cV (Kd.cL ho0 (Kd.cA (rz HO_7.out))) (ai (hz1 HB.out (ag.ge gO.out)))); replace HO_7 := am (Kd.bT (rz HO_7.out) (Kd.cK ho0) hb); replace HB := am (aM (hz1 HB.out (ag.ge gO.out)) hb); replace gO := am (ag.below (ag.lz gO.out) hb); (try clear hb); (try clear hb2); (try clear hk); (try clear hi); (try clear ho0)))
       go_ret2
       exact ⟨_, ez, by (with_reducible repeat (first | apply Kd.ay | apply Kd.aC | apply Kd.ax)); exact Kd.au O3.out (fun _ hk => trivial), hz1 HB.out (ag.ge gO.out)⟩
      ·
       rw [if_neg c13] at H; have wq : (vD == 0) = false := beq_eq_false_iff_ne.mpr c13; have wu : (vD != 0) = true := bne_iff_ne.mpr c13; simp only [Option.some.injEq, Prod.mk.injEq] at H; obtain ⟨rfl, rfl⟩ := H
       go_wp2_with (first | ((with_reducible refine ak (f := 90) rfl ?_); refine aD (some 29) rfl rfl Tryz.func90 (by kernel_rfl) rfl #[.pointer (some ⟨g279, 0, none⟩)] rfl mz ?_; (with_reducible refine (eE.calls g279 jM jN vD MK ML w _ ?side1 ?side2 A12.out).mono ?_); (case side1 => exact ag.lz gO.out); (case side2 => exact hz1 HB.out (ag.ge gO.out)); rintro e w18 ⟨rfl, hi, hb, hk⟩; refine ⟨_, rfl, ?_⟩; replace HO_7 := am (Kd.au (Kd.di (ag.apart (show ag w _ g279 jM jN from ag.lz gO.out) (rz HO_7.out) (by decide)) hk (fun _ h => h.2)) (fun _ h => h.1)); replace HB := am (hb); replace gO := am (hi); (try clear hb); (try clear hb2); (try clear hk); (try clear hi)))
       go_ret2
       exact ⟨_, ez, nz, hz1 HB.out (ag.ge gO.out)⟩
def eO.l0 : Nat → List (cB) → List (cB) → Int → Int → Option (Bool)
 | 0, _, _, _, _ => none
 | k + 1, x0, x5, x6, x7 => if x7 < x6 then (if 0 ≤ x7 then (if x7 < (x5.length : Int) then (if ((bn x5 x7).f1) < 1 then (some false) else (if x7 > 0 then (if 0 ≤ (wrap64 (x7 - 1)) then (if (wrap64 (x7 - 1)) < (x0.length : Int) then (if ((bn x0 (wrap64 (x7 - 1))).f0) = ((bn x5 x7).f0) then (some false) else (eO.l0 k x0 x5 x6 (wrap64 (x7 + 1)))) else (none)) else (none)) else (eO.l0 k x0 x5 x6 (wrap64 (x7 + 1))))) else (none)) else (none)) else (some true)
def eO.f (k : Nat) (l0 : List (cB)) : Option (Bool) := eO.l0 k l0 l0 (l0.length : Int) 0
theorem eO.cF : ∀ k, (∀ y0 y1 y2 y3, LeO (eO.l0 k y0 y1 y2 y3) (eO.l0 (k + 1) y0 y1 y2 y3))
 | 0 => fun _ _ _ _ r h => by simp [eO.l0] at h
 | k + 1 => by
  have ih0 := eO.cF k
  ·
   intro y0 y1 y2 y3; unfold eO.l0
   repeat' first
   | (with_reducible exact ih0 _ _ _ _)
   | (with_reducible exact LeO.refl _)
   | (with_reducible exact LeO.none _)
   | (with_reducible refine LeO.ite ?_ ?_)
   | (with_reducible refine LeO.bind ?_ (fun _ => ?_))
theorem eO.mono : ∀ a0 k, LeO (eO.f k a0) (eO.f (k + 1) a0) := by
 intro a0 k; have ih0 := eO.cF k; unfold eO.f
 repeat' first
  | (with_reducible exact ih0 _ _ _ _)
  | (with_reducible exact LeO.refl _)
  | (with_reducible exact LeO.none _)
  | (with_reducible refine LeO.ite ?_ ?_)
  | (with_reducible refine LeO.bind ?_ (fun _ => ?_))
set_option maxHeartbeats 8000000 in
set_option maxRecDepth 100000 in
theorem eO.calls (k : Nat) (A0 : Option Addr) (c0 : Nat) (l0 : List (cB)) (r : Bool) (w : World) (hr0 : Kd.C tv w A0 l0.length l0) (hc0 : l0.length ≤ c0) (h : eO.f k l0 = some r) :
 Calls Tryz.prog 162 #[.slice A0 l0.length c0] w fun e w' => e = .returned (.bool r) ∧ Below w.heap.size w w' := by
 have hu133 := Tryz.underlying133; have HR0 := Aside0.mk hr0; have HC0 := Aside0.mk hc0; clear hr0 hc0; have HB := Aside0.mk (Below.refl w.heap.size w); have H := h; unfold eO.f at H; clear h; have H' := Aside0.mk H; clear H; go_enter Tryz.func162, Tryz.ntmps162
 go_wp2
 repeat (go_quiet (fail); try go_wp2)
 go_loopg [7] k (fun kq v7 w' => ∃ (bD : Int), v7 = .int .i64 bD ∧ Aside0 (eO.l0 kq l0 l0 (l0.length : Int) bD = some r) ∧ Aside0 (kq ≤ k) ∧ Aside0 (Below w.heap.size w w'))
 case atStart => exact ⟨(0), sz, H', ⟨Nat.le_refl _⟩, ⟨hz HB.out⟩⟩
 case round =>
  clear H'
  try clear c1
  obtain ⟨bD, rfl, HA, HK1, HB⟩ := hrel
  cases gk with
  | zero => exact absurd HA.out (by simp [eO.l0])
  | succ k1 =>
   have H := HA.out; clear HA; simp only [eO.l0] at H
   by_cases c2 : bD < (l0.length : Int)
   ·
    rw [if_pos c2] at H; have jB := decide_eq_true c2; clear c2; obtain ⟨c3, H⟩ := ifz H; have gD : decide (0 ≤ bD) = true := decide_eq_true c3; clear c3; obtain ⟨c4, H⟩ := ifz H; have iC : decide (bD < (l0.length : Int)) = true := decide_eq_true c4; clear c4
    by_cases c5 : ((bn l0 bD).f1) < 1
    ·
     rw [if_pos c5] at H; have fk := decide_eq_true c5; clear c5; obtain rfl := Option.some.inj H; have p292 : 0 ≤ (bD : Int) := of_decide_eq_true az; have q292 : bD < (l0.length : Int) := of_decide_eq_true az; obtain ⟨kn, e292, jX, jY⟩ := jD HR0.out bD p292 q292
     cases e292
     replace jX := cz HB.out jX; replace jY := cz HB.out jY; replace p292 := eq_true p292; replace q292 := eq_true q292
     go_wp2_with (first | ((with_reducible refine bG (N := 4) rfl ?_); refine bW ?hg (N := 4) ?hd (cs := #[.int .u64 0, .int .i64 0]) (t := 133) ?hr ?_; (case hd => rfl); (case hg => rfl); (case hr => first | (go_simp; done) | (go_simp; rfl)); intro cg hg w6 hbox hb; have fB := am (hbox); have ko := am ((by rw [hg]; exact (ai (hz HB.out)) : w.heap.size ≤ cg)); have m8 := am ((by rw [hg]; exact (ai (hz HB.out)) : w.heap.size ≤ cg)); replace HB := sb HB hb; clear hb hbox hg; have MM : w6.cell? ⟨cg, 0, none⟩ = some (.int .u64 0) := (af fB.out 0).trans rfl; have MN : w6.cell? ⟨cg, 1, none⟩ = some (.int .i64 0) := (af fB.out 1).trans rfl; have MO := aj fB.out 0; have MP := aj fB.out 1))
     repeat (go_quiet (fail); try go_wp2_with (first | ((with_reducible refine bG (N := 4) rfl ?_); refine bW ?hg (N := 4) ?hd (cs := #[.int .u64 0, .int .i64 0]) (t := 133) ?hr ?_; (case hd => rfl); (case hg => rfl); (case hr => first | (go_simp; done) | (go_simp; rfl)); intro cg hg w6 hbox hb; have fB := am (hbox); have ko := am ((by rw [hg]; exact (ai (hz HB.out)) : w.heap.size ≤ cg)); have m8 := am ((by rw [hg]; exact (ai (hz HB.out)) : w.heap.size ≤ cg)); replace HB := sb HB hb; clear hb hbox hg; have MM : w6.cell? ⟨cg, 0, none⟩ = some (.int .u64 0) := (af fB.out 0).trans rfl; have MN : w6.cell? ⟨cg, 1, none⟩ = some (.int .i64 0) := (af fB.out 1).trans rfl; have MO := aj fB.out 0; have MP := aj fB.out 1)))
     go_ret
     exact ⟨ez, hz1 HB.out m8.out⟩
    ·
     rw [if_neg c5] at H; have fk := decide_eq_false c5; clear c5
     by_cases c8 : bD > 0
     ·
      rw [if_pos c8] at H; have o7 : decide (0 < bD) = true := decide_eq_true c8; clear c8; obtain ⟨ji9, Bz⟩ : ∃ j_ : Int, (wrap64 (bD - 1)) = j_ := ⟨_, rfl⟩
      (first | rw [Bz] at H | simp only [Bz] at H)
      have hji9w : (IntKind.i64.wrap (bD - 1)) = ji9 := (bN _).trans Bz; obtain ⟨c10, H⟩ := ifz H; have r9 : decide (0 ≤ (ji9)) = true := decide_eq_true c10; clear c10; obtain ⟨c11, H⟩ := ifz H; have EB : decide ((ji9) < (l0.length : Int)) = true := decide_eq_true c11; clear c11
      by_cases c12 : ((bn l0 (ji9)).f0) = ((bn l0 bD).f0)
      ·
       rw [if_pos c12] at H; have nR : (((bn l0 (ji9)).f0) == ((bn l0 bD).f0)) = true := beq_iff_eq.mpr c12; have uy : (((bn l0 (ji9)).f0) != ((bn l0 bD).f0)) = false := bne_eq_false_iff_eq.mpr c12; clear c12; obtain rfl := Option.some.inj H; have p292 : 0 ≤ (bD : Int) := of_decide_eq_true az; have q292 : bD < (l0.length : Int) := of_decide_eq_true az; obtain ⟨kn, e292, jX, jY⟩ := jD HR0.out bD p292 q292
       cases e292
       replace jX := cz HB.out jX; replace jY := cz HB.out jY; replace p292 := eq_true p292; replace q292 := eq_true q292
       go_wp2_with (first | ((with_reducible refine bG (N := 4) rfl ?_); refine bW ?hg (N := 4) ?hd (cs := #[.int .u64 0, .int .i64 0]) (t := 133) ?hr ?_; (case hd => rfl); (case hg => rfl); (case hr => first | (go_simp; done) | (go_simp; rfl)); intro cg hg w13 hbox hb; have fB := am (hbox); have ko := am ((by rw [hg]; exact (ai (hz HB.out)) : w.heap.size ≤ cg)); have m8 := am ((by rw [hg]; exact (ai (hz HB.out)) : w.heap.size ≤ cg)); replace HB := sb HB hb; clear hb hbox hg; have xO : w13.cell? ⟨cg, 0, none⟩ = some (.int .u64 0) := (af fB.out 0).trans rfl; have xP : w13.cell? ⟨cg, 1, none⟩ = some (.int .i64 0) := (af fB.out 1).trans rfl; have xQ := aj fB.out 0; have xR := aj fB.out 1; have p294 : 0 ≤ ((ji9) : Int) := of_decide_eq_true az; have q294 : (ji9) < (l0.length : Int) := of_decide_eq_true az; obtain ⟨sB, e294, dB, eP⟩ := jD HR0.out (ji9) p294 q294; obtain rfl : kn = sB := (by injection e294); have hn294_0 : kn.block ≠ cg := Nat.ne_of_lt (Nat.lt_of_lt_of_le (by have := World.block_lt_of_cell? _ _ dB; first | rwa [cx] at this | exact this) ko.out); have hn294_1 : kn.block ≠ cg := Nat.ne_of_lt (Nat.lt_of_lt_of_le (by have := World.block_lt_of_cell? _ _ dB; first | rwa [cx] at this | exact this) ko.out); replace dB := cz HB.out dB; replace eP := cz HB.out eP; replace dB := (cell_far (p := ⟨cg, 0, none⟩) (by first | (rw [cx]; exact hn294_0) | (show (Addr.add _ _).block ≠ _; rw [cx]; exact hn294_0) | exact hn294_0) (.int .u64 ((bn l0 bD).f0))).trans dB; replace eP := (cell_far (p := ⟨cg, 0, none⟩) (by first | (rw [cx]; exact hn294_0) | (show (Addr.add _ _).block ≠ _; rw [cx]; exact hn294_0) | exact hn294_0) (.int .u64 ((bn l0 bD).f0))).trans eP; replace dB := (cell_far (p := ⟨cg, 1, none⟩) (by first | (rw [cx]; exact hn294_1) | (show (Addr.add _ _).block ≠ _; rw [cx]; exact hn294_1) | exact hn294_1) (.int .i64 ((bn l0 bD).f1))).trans dB; replace eP := (cell_far (p := ⟨cg, 1, none⟩) (by first | (rw [cx]; exact hn294_1) | (show (Addr.add _ _).block ≠ _; rw [cx]; exact hn294_1) | exact hn294_1) (.int .i64 ((bn l0 bD).f1))).trans eP; (try have yl := fun (n_ : Nat) => (show ((((w13.drewN n_).setCell ⟨cg, 0, none⟩ (.int .u64 ((bn l0 bD).f0))).setCell ⟨cg, 1, none⟩ (.int .i64 ((bn l0 bD).f1)))).cell? _ = some _ from dB)); (try have ym := fun (n_ : Nat) => (show ((((w13.drewN n_).setCell ⟨cg, 0, none⟩ (.int .u64 ((bn l0 bD).f0))).setCell ⟨cg, 1, none⟩ (.int .i64 ((bn l0 bD).f1)))).cell? _ = some _ from eP)); clear hn294_0; clear hn294_1; replace p294 := eq_true p294; replace q294 := eq_true q294))
       repeat (go_quiet (fail); try go_wp2_with (first | ((with_reducible refine bG (N := 4) rfl ?_); refine bW ?hg (N := 4) ?hd (cs := #[.int .u64 0, .int .i64 0]) (t := 133) ?hr ?_; (case hd => rfl); (case hg => rfl); (case hr => first | (go_simp; done) | (go_simp; rfl)); intro cg hg w13 hbox hb; have fB := am (hbox); have ko := am ((by rw [hg]; exact (ai (hz HB.out)) : w.heap.size ≤ cg)); have m8 := am ((by rw [hg]; exact (ai (hz HB.out)) : w.heap.size ≤ cg)); replace HB := sb HB hb; clear hb hbox hg; have xO : w13.cell? ⟨cg, 0, none⟩ = some (.int .u64 0) := (af fB.out 0).trans rfl; have xP : w13.cell? ⟨cg, 1, none⟩ = some (.int .i64 0) := (af fB.out 1).trans rfl; have xQ := aj fB.out 0; have xR := aj fB.out 1; have p294 : 0 ≤ ((ji9) : Int) := of_decide_eq_true az; have q294 : (ji9) < (l0.length : Int) := of_decide_eq_true az; obtain ⟨sB, e294, dB, eP⟩ := jD HR0.out (ji9) p294 q294; obtain rfl : kn = sB := (by injection e294); have hn294_0 : kn.block ≠ cg := Nat.ne_of_lt (Nat.lt_of_lt_of_le (by have := World.block_lt_of_cell? _ _ dB; first | rwa [cx] at this | exact this) ko.out); have hn294_1 : kn.block ≠ cg := Nat.ne_of_lt (Nat.lt_of_lt_of_le (by have := World.block_lt_of_cell? _ _ dB; first | rwa [cx] at this | exact this) ko.out); replace dB := cz HB.out dB; replace eP := cz HB.out eP; replace dB := (cell_far (p := ⟨cg, 0, none⟩) (by first | (rw [cx]; exact hn294_0) | (show (Addr.add _ _).block ≠ _; rw [cx]; exact hn294_0) | exact hn294_0) (.int .u64 ((bn l0 bD).f0))).trans dB; replace eP := (cell_far (p := ⟨cg, 0, none⟩) (by first | (rw [cx]; exact hn294_0) | (show (Addr.add _ _).block ≠ _; rw [cx]; exact hn294_0) | exact hn294_0) (.int .u64 ((bn l0 bD).f0))).trans eP; replace dB := (cell_far (p := ⟨cg, 1, none⟩) (by first | (rw [cx]; exact hn294_1) | (show (Addr.add _ _).block ≠ _; rw [cx]; exact hn294_1) | exact hn294_1) (.int .i64 ((bn l0 bD).f1))).trans dB; replace eP := (cell_far (p := ⟨cg, 1, none⟩) (by first | (rw [cx]; exact hn294_1) | (show (Addr.add _ _).block ≠ _; rw [cx]; exact hn294_1) | exact hn294_1) (.int .i64 ((bn l0 bD).f1))).trans eP; (try have yl := fun (n_ : Nat) => (show ((((w13.drewN n_).setCell ⟨cg, 0, none⟩ (.int .u64 ((bn l0 bD).f0))).setCell ⟨cg, 1, none⟩ (.int .i64 ((bn l0 bD).f1)))).cell? _ = some _ from dB)); (try have ym := fun (n_ : Nat) => (show ((((w13.drewN n_).setCell ⟨cg, 0, none⟩ (.int .u64 ((bn l0 bD).f0))).setCell ⟨cg, 1, none⟩ (.int .i64 ((bn l0 bD).f1)))).cell? _ = some _ from eP)); clear hn294_0; clear hn294_1; replace p294 := eq_true p294; replace q294 := eq_true q294)))
       go_ret
       (try simp only [Bz]); exact ⟨by first | rfl | (simp [gX, gY] <;> rfl) | (simp only [← Bz]; first | rfl | (simp [gX, gY] <;> rfl)) | (simp [*, gX, gY] <;> rfl), hz1 HB.out m8.out⟩
      ·
       rw [if_neg c12] at H; have nR : (((bn l0 (ji9)).f0) == ((bn l0 bD).f0)) = false := beq_eq_false_iff_ne.mpr c12; have uy : (((bn l0 (ji9)).f0) != ((bn l0 bD).f0)) = true := bne_iff_ne.mpr c12; have H' := Aside0.mk H; clear H; have p292 : 0 ≤ (bD : Int) := of_decide_eq_true az; have q292 : bD < (l0.length : Int) := of_decide_eq_true az; obtain ⟨kn, e292, jX, jY⟩ := jD HR0.out bD p292 q292
       cases e292
       replace jX := cz HB.out jX; replace jY := cz HB.out jY; replace p292 := eq_true p292; replace q292 := eq_true q292
       go_wp2_with (first | ((with_reducible refine bG (N := 4) rfl ?_); refine bW ?hg (N := 4) ?hd (cs := #[.int .u64 0, .int .i64 0]) (t := 133) ?hr ?_; (case hd => rfl); (case hg => rfl); (case hr => first | (go_simp; done) | (go_simp; rfl)); intro cg hg w15 hbox hb; have fB := am (hbox); have ko := am ((by rw [hg]; exact (ai (hz HB.out)) : w.heap.size ≤ cg)); have m8 := am ((by rw [hg]; exact (ai (hz HB.out)) : w.heap.size ≤ cg)); replace HB := sb HB hb; clear hb hbox hg; have xS : w15.cell? ⟨cg, 0, none⟩ = some (.int .u64 0) := (af fB.out 0).trans rfl; have xT : w15.cell? ⟨cg, 1, none⟩ = some (.int .i64 0) := (af fB.out 1).trans rfl; have xU := aj fB.out 0; have xV := aj fB.out 1; have p294 : 0 ≤ ((ji9) : Int) := of_decide_eq_true az; have q294 : (ji9) < (l0.length : Int) := of_decide_eq_true az; obtain ⟨sB, e294, dB, eP⟩ := jD HR0.out (ji9) p294 q294; obtain rfl : kn = sB := (by injection e294); have hn294_0 : kn.block ≠ cg := Nat.ne_of_lt (Nat.lt_of_lt_of_le (by have := World.block_lt_of_cell? _ _ dB; first | rwa [cx] at this | exact this) ko.out); have hn294_1 : kn.block ≠ cg := Nat.ne_of_lt (Nat.lt_of_lt_of_le (by have := World.block_lt_of_cell? _ _ dB; first | rwa [cx] at this | exact this) ko.out); replace dB := cz HB.out dB; replace eP := cz HB.out eP; replace dB := (cell_far (p := ⟨cg, 0, none⟩) (by first | (rw [cx]; exact hn294_0) | (show (Addr.add _ _).block ≠ _; rw [cx]; exact hn294_0) | exact hn294_0) (.int .u64 ((bn l0 bD).f0))).trans dB; replace eP := (cell_far (p := ⟨cg, 0, none⟩) (by first | (rw [cx]; exact hn294_0) | (show (Addr.add _ _).block ≠ _; rw [cx]; exact hn294_0) | exact hn294_0) (.int .u64 ((bn l0 bD).f0))).trans eP; replace dB := (cell_far (p := ⟨cg, 1, none⟩) (by first | (rw [cx]; exact hn294_1) | (show (Addr.add _ _).block ≠ _; rw [cx]; exact hn294_1) | exact hn294_1) (.int .i64 ((bn l0 bD).f1))).trans dB; replace eP := (cell_far (p := ⟨cg, 1, none⟩) (by first | (rw [cx]; exact hn294_1) | (show (Addr.add _ _).block ≠ _; rw [cx]; exact hn294_1) | exact hn294_1) (.int .i64 ((bn l0 bD).f1))).trans eP; (try have yl := fun (n_ : Nat) => (show ((((w15.drewN n_).setCell ⟨cg, 0, none⟩ (.int .u64 ((bn l0 bD).f0))).setCell ⟨cg, 1, none⟩ (.int .i64 ((bn l0 bD).f1)))).cell? _ = some _ from dB)); (try have ym := fun (n_ : Nat) => (show ((((w15.drewN n_).setCell ⟨cg, 0, none⟩ (.int .u64 ((bn l0 bD).f0))).setCell ⟨cg, 1, none⟩ (.int .i64 ((bn l0 bD).f1)))).cell? _ = some _ from eP)); clear hn294_0; clear hn294_1; replace p294 := eq_true p294; replace q294 := eq_true q294))
       repeat (go_quiet (fail); try go_wp2_with (first | ((with_reducible refine bG (N := 4) rfl ?_); refine bW ?hg (N := 4) ?hd (cs := #[.int .u64 0, .int .i64 0]) (t := 133) ?hr ?_; (case hd => rfl); (case hg => rfl); (case hr => first | (go_simp; done) | (go_simp; rfl)); intro cg hg w15 hbox hb; have fB := am (hbox); have ko := am ((by rw [hg]; exact (ai (hz HB.out)) : w.heap.size ≤ cg)); have m8 := am ((by rw [hg]; exact (ai (hz HB.out)) : w.heap.size ≤ cg)); replace HB := sb HB hb; clear hb hbox hg; have xS : w15.cell? ⟨cg, 0, none⟩ = some (.int .u64 0) := (af fB.out 0).trans rfl; have xT : w15.cell? ⟨cg, 1, none⟩ = some (.int .i64 0) := (af fB.out 1).trans rfl; have xU := aj fB.out 0; have xV := aj fB.out 1; have p294 : 0 ≤ ((ji9) : Int) := of_decide_eq_true az; have q294 : (ji9) < (l0.length : Int) := of_decide_eq_true az; obtain ⟨sB, e294, dB, eP⟩ := jD HR0.out (ji9) p294 q294; obtain rfl : kn = sB := (by injection e294); have hn294_0 : kn.block ≠ cg := Nat.ne_of_lt (Nat.lt_of_lt_of_le (by have := World.block_lt_of_cell? _ _ dB; first | rwa [cx] at this | exact this) ko.out); have hn294_1 : kn.block ≠ cg := Nat.ne_of_lt (Nat.lt_of_lt_of_le (by have := World.block_lt_of_cell? _ _ dB; first | rwa [cx] at this | exact this) ko.out); replace dB := cz HB.out dB; replace eP := cz HB.out eP; replace dB := (cell_far (p := ⟨cg, 0, none⟩) (by first | (rw [cx]; exact hn294_0) | (show (Addr.add _ _).block ≠ _; rw [cx]; exact hn294_0) | exact hn294_0) (.int .u64 ((bn l0 bD).f0))).trans dB; replace eP := (cell_far (p := ⟨cg, 0, none⟩) (by first | (rw [cx]; exact hn294_0) | (show (Addr.add _ _).block ≠ _; rw [cx]; exact hn294_0) | exact hn294_0) (.int .u64 ((bn l0 bD).f0))).trans eP; replace dB := (cell_far (p := ⟨cg, 1, none⟩) (by first | (rw [cx]; exact hn294_1) | (show (Addr.add _ _).block ≠ _; rw [cx]; exact hn294_1) | exact hn294_1) (.int .i64 ((bn l0 bD).f1))).trans dB; replace eP := (cell_far (p := ⟨cg, 1, none⟩) (by first | (rw [cx]; exact hn294_1) | (show (Addr.add _ _).block ≠ _; rw [cx]; exact hn294_1) | exact hn294_1) (.int .i64 ((bn l0 bD).f1))).trans eP; (try have yl := fun (n_ : Nat) => (show ((((w15.drewN n_).setCell ⟨cg, 0, none⟩ (.int .u64 ((bn l0 bD).f0))).setCell ⟨cg, 1, none⟩ (.int .i64 ((bn l0 bD).f1)))).cell? _ = some _ from dB)); (try have ym := fun (n_ : Nat) => (show ((((w15.drewN n_).setCell ⟨cg, 0, none⟩ (.int .u64 ((bn l0 bD).f0))).setCell ⟨cg, 1, none⟩ (.int .i64 ((bn l0 bD).f1)))).cell? _ = some _ from eP)); clear hn294_0; clear hn294_1; replace p294 := eq_true p294; replace q294 := eq_true q294)))
       go_roundg k1
       case measure => have := HK1.out; omega
       case rel => exact ⟨(wrap64 (bD + 1)), sz, H', ⟨by have := HK1.out; omega⟩, ⟨hz1 HB.out m8.out⟩⟩
     ·
      rw [if_neg c8] at H; have o7 : decide (0 < bD) = false := decide_eq_false c8; clear c8; have H' := Aside0.mk H; clear H; have p292 : 0 ≤ (bD : Int) := of_decide_eq_true az; have q292 : bD < (l0.length : Int) := of_decide_eq_true az; obtain ⟨kn, e292, jX, jY⟩ := jD HR0.out bD p292 q292
      cases e292
      replace jX := cz HB.out jX; replace jY := cz HB.out jY; replace p292 := eq_true p292; replace q292 := eq_true q292
      go_wp2_with (first | ((with_reducible refine bG (N := 4) rfl ?_); refine bW ?hg (N := 4) ?hd (cs := #[.int .u64 0, .int .i64 0]) (t := 133) ?hr ?_; (case hd => rfl); (case hg => rfl); (case hr => first | (go_simp; done) | (go_simp; rfl)); intro cg hg w17 hbox hb; have fB := am (hbox); have ko := am ((by rw [hg]; exact (ai (hz HB.out)) : w.heap.size ≤ cg)); have m8 := am ((by rw [hg]; exact (ai (hz HB.out)) : w.heap.size ≤ cg)); replace HB := sb HB hb; clear hb hbox hg; have CZ : w17.cell? ⟨cg, 0, none⟩ = some (.int .u64 0) := (af fB.out 0).trans rfl; have C0 : w17.cell? ⟨cg, 1, none⟩ = some (.int .i64 0) := (af fB.out 1).trans rfl; have C2 := aj fB.out 0; have C3 := aj fB.out 1))
      repeat (go_quiet (fail); try go_wp2_with (first | ((with_reducible refine bG (N := 4) rfl ?_); refine bW ?hg (N := 4) ?hd (cs := #[.int .u64 0, .int .i64 0]) (t := 133) ?hr ?_; (case hd => rfl); (case hg => rfl); (case hr => first | (go_simp; done) | (go_simp; rfl)); intro cg hg w17 hbox hb; have fB := am (hbox); have ko := am ((by rw [hg]; exact (ai (hz HB.out)) : w.heap.size ≤ cg)); have m8 := am ((by rw [hg]; exact (ai (hz HB.out)) : w.heap.size ≤ cg)); replace HB := sb HB hb; clear hb hbox hg; have CZ : w17.cell? ⟨cg, 0, none⟩ = some (.int .u64 0) := (af fB.out 0).trans rfl; have C0 : w17.cell? ⟨cg, 1, none⟩ = some (.int .i64 0) := (af fB.out 1).trans rfl; have C2 := aj fB.out 0; have C3 := aj fB.out 1)))
      go_roundg k1
      case measure => have := HK1.out; omega
      case rel => exact ⟨(wrap64 (bD + 1)), sz, H', ⟨by have := HK1.out; omega⟩, ⟨hz1 HB.out m8.out⟩⟩
   ·
    rw [if_neg c2] at H; have jB := decide_eq_false c2; clear c2; obtain rfl := Option.some.inj H
    go_wp2
    repeat (go_quiet (fail); try go_wp2)
    go_ret
    exact ⟨ez, hz HB.out⟩
end Go.Proofs.YtfgnjndfnijjoaaGreat.Print
end
