/- Part 0 of what OplogRanks stands on: merged by a program of this session out of its texts. -/
import Derived.Below
import Derived.Deep.Draws
import Derived.Deep.AppendLies
import Derived.Maps.AppendAt
import Derived.OwnWalk
import Derived.Laws.BytesArg
import Derived.Laws.MakeOwn
import Derived.Laws.OwnMore
import Derived.Deep.OwnRows
import Derived.Tactics
import Derived.Lib.ConvBytes
import Derived.Laws.Slices
import Derived.WalkKit
import Derived.KernelRfl
import Derived.RowKit3
import Derived.Deep.LoopGhost
import Derived.Deep.QuietTactic
import Derived.BigQuiet
import Derived.WideLaws
import Derived.Deep.DeepCutAuto
import Derived.Deep.CutBlock
import Derived.Deep.RegionHeld3
import Derived.Laws.Rows
import Derived.Lib.AppendStr
import Derived.ArgAppend
import Derived.Laws.IdiomCopy
import Derived.RowKit
import Derived.OrdersHeld
import Derived.Laws.BitsLemmas
import Derived.Laws.FloatArith
import Derived.Deep.WholeRow
import Derived.Laws.IdiomArrays
import Derived.Laws.BitsAllLaws
import Derived.Laws.StructEq
section
set_option linter.unusedVariables false
set_option linter.unusedSimpArgs false
namespace Go.Proofs.YtfgnjndfnijjoaaGreatW.PrintWords
open Go.RowKit
structure Aside0 (p : Prop) : Prop where mk :: (out : p)
structure bP (w w' : World) : Prop where mk :: (out : ∃ n, w' = w.drewN n)
theorem bP.refl (w : World) : bP w w := ⟨⟨0, rfl⟩⟩
theorem bP.step {w w' : World} (h : bP w w') (n : Nat) : bP w (w'.drewN n) := by
 obtain ⟨m, rfl⟩ := h; exact ⟨⟨m + n, World.drewN_drewN ..⟩⟩
theorem bP.grown {w w' : World} (h : bP w w') : Grown w w' := by
 obtain ⟨n, rfl⟩ := h
 induction n with
 | zero => exact Grown.refl _
 | succ n ih => rw [← World.drew_drewN]; exact Grown.drew ih
theorem bP.below {w w' : World} (h : bP w w') : Below w.heap.size w w' := by
 obtain ⟨n, rfl⟩ := h
 induction n with
 | zero => exact Below.refl _ _
 | succ n ih => rw [← World.drew_drewN]; exact ih.drew
def rd (xs : List Int) (i : Int) : Int := xs.getD i.toNat 0
def bt (s : ByteArray) (i : Int) : Int := if h : i.toNat < s.size then ((s[i.toNat]'h).toNat : Int) else 0
theorem Je (s : ByteArray) (i : Int) : ∀ h : i.toNat < s.size, ((s[i.toNat]'h).toNat : Int) = bt s i := fun h => by simp [bt, h]
theorem oZ (s : ByteArray) (i : Int) : 0 ≤ bt s i ∧ bt s i ≤ 255 := by
 unfold bt
 split
 ·
  rename_i h
  have := (s[i.toNat]'h).toNat_lt
  omega
 · omega
def nums (k : IntKind) (xs : List Int) : List Value := xs.map fun x => .int k x
theorem aH {w W : World} (h : Below w.heap.size w W) (o : Obj) : Below w.heap.size w (W.alloc o) := h.alloc h.size o
theorem oG {B : Nat} {w W : World} (h : Below B w W) : Below B w W.drew := ⟨h.os, h.tape, h.output, h.size, h.block⟩
theorem aG {B : Nat} {w W : World} (h : Below B w W) (n : Nat) : Below B w (W.drewN n) := ⟨h.os, h.tape, h.output, h.size, h.block⟩
theorem ij {B : Nat} {w w1 w2 : World} (h : Below B w w1) (hB : B ≤ w1.heap.size) (k : Below w1.heap.size w1 w2) : Below B w w2 :=
  h.trans ⟨k.os, k.tape, k.output, k.size, fun i hi => k.block i (Nat.lt_of_lt_of_le hi hB)⟩
theorem ld {w w1 : World} (h : Below w.heap.size w w1) (row : Option Nat) : w.grownBy w1 row := ⟨h.os, h.tape, h.output, h.size, fun i hi _ => h.block i hi⟩
theorem dI {w w1 : World} (h : Below w.heap.size w w1) {a : Addr} {v : Value} (hc : w.cell? a = some v) : w1.cell? a = some v := (h.cell (World.block_lt_of_cell? w a hc)).trans hc
theorem add_plain (g j : Nat) : (⟨g, 0, none⟩ : Addr).add j = ⟨g, j, none⟩ := by unfold Addr.add; split <;> simp_all
theorem JW (W : World) (base : Nat) (e : TypeId) (size : Nat) : W.ownsRow base e size (.slice none 0 0) 0 [] := ⟨by simp, .inl ⟨rfl, rfl⟩⟩
theorem ny {w : World} {base : Nat} {e : TypeId} {size n : Nat} {v : Value} {xs : List Value} (h : w.ownsRow base e size v n xs) (k : Nat) (hk : v.ownBlock = some k) : base ≤ k := by
 rcases h.2 with ⟨rfl, _⟩ | ⟨g, cap, cur, rfl, hb, _⟩
 · simp [Value.ownBlock] at hk
 ·
  have : g = k := by simpa [Value.ownBlock] using hk
  omega
theorem Fu {w : World} {base : Nat} {e : TypeId} {size n : Nat} {v : Value} {xs : List Value} (h : w.ownsRow base e size v n xs) (k : Nat) (hk : v.ownBlock = some k) : k < w.heap.size := by
 rcases h.2 with ⟨rfl, _⟩ | ⟨g, cap, cur, rfl, hb, hh, _⟩
 · simp [Value.ownBlock] at hk
 ·
  have : g = k := by simpa [Value.ownBlock] using hk
  subst this; exact (Array.getElem?_eq_some_iff.1 hh).1
theorem Ay {w w1 : World} {base : Nat} {e : TypeId} {size n : Nat} {v : Value} {xs : List Value} (h : w.ownsRow base e size v n xs) (hb : Below w.heap.size w w1) : w1.ownsRow base e size v n xs :=
  h.kept (ld hb none) (by cases v.ownBlock <;> simp)
theorem Du {P : Program} {w : World} {base n : Nat} {e' src dst e : TypeId} {v : Value} {xs : List Int} (hs : P.underlying src = some (.slice e)) (he : P.underlying e = some (.int .u8)) (hd : P.underlying dst = some .string)
    (h : w.ownsRow base e' 1 v n (nums .u8 xs)) : (convert src dst v).run P w = .ok (.string (strOfNums xs)) w := by
 have hl : xs.length = n := by have := h.1; simp [nums] at this; exact this
 rcases h.2 with ⟨rfl, rfl⟩ | ⟨g, cap, cur, rfl, _⟩
 ·
  obtain rfl : xs = [] := List.eq_nil_of_length_eq_zero hl; exact run_convert_bytes_nil w src e hs he 0 0 dst hd
 ·
  refine run_convert_bytes_arg w src e hs he g 0 n cap xs hl (fun i hi => ?_) dst hd; have hc := h.cells (g := g) rfl i (.int .u8 (xs.getD i 0)) (by simp [nums, List.getElem?_eq_getElem (show i < xs.length by omega), List.getD_eq_getElem?_getD]); have ha : (⟨g, 0, none⟩ : Addr).add i = ⟨g, 0 + i, none⟩ := by unfold Addr.add; split <;> simp_all
  rwa [ha] at hc
section
variable {P : Program} {ops : Array Oper} {rest : List Oper} {o : Oper} {a : Act} {Q : Exit → Act → World → Prop}
end
section
variable {P : Program}
end
section
variable {P : Program} {ops : Array Oper} {rest : List Oper} {o : Oper} {a : Act} {Q : Exit → Act → World → Prop}
end
theorem Cv (s : ByteArray) : s.data.toList.length = s.size := by rw [Array.length_toList]; rfl
theorem Cw {P : Program} (src dst e : TypeId) {u : TypeDesc} (hs : P.underlying src = some u) (hd : P.underlying dst = some (.slice e)) (he : P.underlying e = some (.int .u8)) (s : ByteArray) (W : World) :
    (convert src dst (.string s)).run P W = .ok (.slice (some ⟨W.heap.size, 0, none⟩) s.size (grownCap W s.size 0 e)) (Lib.bytesWorld W e s) := Lib.run_convert_string_bytes W src dst e s hs hd he
theorem Cx {B : Nat} {w W : World} (h : Below B w W) (hB : B ≤ W.heap.size) (e : TypeId) (s : ByteArray) : Below B w (Lib.bytesWorld W e s) :=
  h.trans ⟨rfl, rfl, rfl, by rw [Lib.bytesWorld_size]; omega, fun i hi => Lib.bytesWorld_at_old W e s i (by omega)⟩
def LeO {α : Type} (a b : Option α) : Prop := ∀ r, a = some r → b = some r
theorem LeO.refl {α : Type} (a : Option α) : LeO a a := fun _ h => h
theorem LeO.none {α : Type} (b : Option α) : LeO Option.none b := fun _ h => by cases h
theorem LeO.trans {α : Type} {a b c : Option α} (h : LeO a b) (k : LeO b c) : LeO a c := fun r hr => k r (h r hr)
theorem LeO.ite {α : Type} {c : Prop} [Decidable c] {a a' b b' : Option α} (h : LeO a a') (k : LeO b b') : LeO (if c then a else b) (if c then a' else b') := by
 split
 · exact h
 · exact k
theorem LeO.bind {α β : Type} {a a' : Option α} {f f' : α → Option β} (h : LeO a a') (k : ∀ x, LeO (f x) (f' x)) : LeO (a.bind f) (a'.bind f') := by
 intro r hr; obtain ⟨x, hx, hf⟩ := Option.bind_eq_some_iff.1 hr; exact Option.bind_eq_some_iff.2 ⟨x, h x hx, k x r hf⟩
theorem LeO.map {α β : Type} {a a' : Option α} (f : α → β) (h : LeO a a') : LeO (a.map f) (a'.map f) := by
 intro r hr; obtain ⟨x, hx, hf⟩ := Option.map_eq_some_iff.1 hr; exact Option.map_eq_some_iff.2 ⟨x, h x hx, hf⟩
theorem uI {α : Type} {g : Nat → Option α} (h : ∀ k, LeO (g k) (g (k + 1))) (k : Nat) : ∀ j, LeO (g k) (g (k + j))
  | 0 => LeO.refl _
  | j + 1 => (uI h k j).trans (h (k + j))
theorem Fv {α : Type} {g : Nat → Option α} (h : ∀ k, LeO (g k) (g (k + 1))) {k k' : Nat} (hk : k ≤ k') {r : α} (hr : g k = some r) : g k' = some r := by
 have := uI h k (k' - k) r hr
 rwa [Nat.add_sub_cancel' hk] at this
def bK {α : Type} (R : α → List Value → Prop) (size : Nat) (ps : List α) (cs : List Value) : Prop :=
  cs.length = ps.length * size ∧ ∀ j p, ps[j]? = some p → R p ((cs.drop (j * size)).take size)
theorem bK.none {α : Type} (R : α → List Value → Prop) (size : Nat) : bK R size [] [] := ⟨by simp, fun j p h => by simp at h⟩
theorem bK.snoc {α : Type} {R : α → List Value → Prop} {size : Nat} {ps : List α} {cs c : List Value} {p : α} (h : bK R size ps cs) (hp : R p c) (hc : c.length = size) : bK R size (ps ++ [p]) (cs ++ c) := by
 refine ⟨by rw [List.length_append, h.1, hc, List.length_append, List.length_singleton, Nat.add_mul, Nat.one_mul], fun j q hq => ?_⟩
 rcases Nat.lt_or_ge j ps.length with hj | hj
 ·
  rw [List.getElem?_append_left hj] at hq; have h1 : j * size + size ≤ cs.length := by rw [h.1, ← Nat.succ_mul]; exact Nat.mul_le_mul_right _ hj
  have h2 := h.2 j q hq; rw [List.drop_append_of_le_length (by omega), List.take_append_of_le_length (by rw [List.length_drop]; omega)]; exact h2
 ·
  have hj' : j = ps.length := by
   have := (List.getElem?_eq_some_iff.1 hq).1; rw [List.length_append, List.length_singleton] at this
   omega
  subst hj'; have hq' : p = q := by simpa using hq
  subst hq'; rw [← h.1, List.drop_left, ← hc, List.take_length]; exact hp
theorem bK.kK {α : Type} {R R' : α → List Value → Prop} {size : Nat} {ps : List α} {cs : List Value} (h : bK R size ps cs) (hR : ∀ p c, R p c → R' p c) : bK R' size ps cs := ⟨h.1, fun j p hj => hR _ _ (h.2 j p hj)⟩
def gT {α : Type} (R : α → List Value → Prop) (size : Nat) (w : World) (A : Option Addr) (n : Nat) (ps : List α) : Prop :=
  ps.length = n ∧ n ≤ 9223372036854775807 ∧ (0 < n → ∃ ad, A = some ad ∧ ∀ j p, ps[j]? = some p → ∃ c, c.length = size ∧ R p c ∧ ∀ i u, c[i]? = some u → w.cell? (ad.add (j * size + i)) = some u)
theorem gT.P3 {α : Type} {R : α → List Value → Prop} {size : Nat} {w : World} {A : Option Addr} {n : Nat} {ps : List α} (h : gT R size w A n ps) (d : α) (i : Int) (h0 : 0 ≤ i) (h1 : i < n) :
    ∃ ad c, A = some ad ∧ c.length = size ∧ R (ps.getD i.toNat d) c ∧ ∀ j u, c[j]? = some u → w.cell? (ad.add (i.toNat * size + j)) = some u := by
 obtain ⟨ad, e, hc⟩ := h.2.2 (by omega); have hl : i.toNat < ps.length := by have := h.1; omega
 obtain ⟨c, hs, hr, hcell⟩ := hc i.toNat _ (List.getElem?_eq_getElem hl); refine ⟨ad, c, e, hs, ?_, hcell⟩; rw [List.getD_eq_getElem?_getD, List.getElem?_eq_getElem hl]; exact hr
theorem gT.kK {α : Type} {R R' : α → List Value → Prop} {size : Nat} {w w1 : World} {A : Option Addr} {n : Nat} {ps : List α} (h : gT R size w A n ps) (hb : Below w.heap.size w w1) (hR : ∀ p c, R p c → R' p c) : gT R' size w1 A n ps :=
  ⟨h.1, h.2.1, fun hn => by
    obtain ⟨ad, e, hc⟩ := h.2.2 hn
    refine ⟨ad, e, fun j p hj => ?_⟩
    obtain ⟨c, hs, hr, hcell⟩ := hc j p hj
    exact ⟨c, hs, hR _ _ hr, fun i u hu => dI hb (hcell i u hu)⟩⟩
theorem zy {α : Type} {R : α → List Value → Prop} {w : World} {base n size : Nat} {e : TypeId} {v : Value} {ps : List α} {cs : List Value} (h : w.ownsRow base e size v n cs) (hR : bK R size ps cs) (hn : ps.length = n) :
    ∃ A c, v = .slice A n c ∧ gT R size w A n ps := by
 rcases Nat.eq_zero_or_pos n with h0 | h0
 ·
  rcases h.2 with ⟨rfl, rfl⟩ | ⟨g, cap, cur, rfl, _⟩
  · exact ⟨none, 0, rfl, hn, by omega, fun hp => absurd hp (by omega)⟩
  · exact ⟨_, cap, rfl, hn, by omega, fun hp => absurd hp (by omega)⟩
 ·
  obtain ⟨g, cap, rfl, _, _⟩ := h.form h0
  have hm : n ≤ 9223372036854775807 := by
   rcases h.2 with ⟨_, h1⟩ | ⟨g', cap', cur, he, _, _, h1, h2, _⟩
   · omega
   ·
    simp only [maxLen] at h2
    omega
  refine ⟨_, cap, rfl, hn, hm, fun _ => ⟨_, rfl, fun j p hj => ⟨(cs.drop (j * size)).take size, ?_, hR.2 j p hj, fun i u hu => ?_⟩⟩⟩
  ·
   have hjl := (List.getElem?_eq_some_iff.1 hj).1; have h1 : j * size + size ≤ cs.length := by rw [hR.1, ← Nat.succ_mul]; exact Nat.mul_le_mul_right _ hjl
   rw [List.length_take, List.length_drop]
   omega
  ·
   refine h.cells (g := g) rfl _ u ?_; rw [List.getElem?_take] at hu
   split at hu
   ·
    rw [List.getElem?_drop] at hu; exact hu
   · cases hu
theorem j5 (ad : Addr) (m j : Nat) (hj : 0 < j) : ad.add (m + j) = ⟨(ad.add m).block, (ad.add m).off + j, none⟩ := by
 unfold Addr.add
 by_cases hm : m = 0
 ·
  subst hm
  simp [Nat.ne_of_gt hj]
 · simp [hm, Nat.add_assoc]
section
variable {P : Program} {ops : Array Oper} {rest : List Oper} {o : Oper} {a : Act} {Q : Exit → Act → World → Prop}
theorem nV {w0 W : World} (base : Nat) (hgd : o.guard = none) (s x : Operand) (t e : TypeId) (z : Value) (size bytes : Nat)
    (ho : o.op = .call { callee := .builtin .append, args := #[s, x], argTypes := #[t, t] })
    (ht : P.underlying t = some (.slice e)) (hinfo : (P.info? e).map (fun i => (i.zero, i.size, i.bytes)) = some (some z, size, bytes)) (hz : z.cells.size = size) (hs0 : 0 < size) (hb0 : 0 < bytes)
    (v : Value) (n : Nat) (xs ys : List Value) (hs : a.eval s = v) (hx : a.eval x = .slice (some ⟨W.heap.size, 0, none⟩) 1 1) (hys : ys.length = size) (h1 : ∀ u ∈ ys, u.oneCell' = true)
    (HO : W.ownsRow base e size v n xs) (HB : Below base w0 W) (hbase : base ≤ W.heap.size) (hl : (n + 1) * bytes ≤ 140737488355328)
    (h : ∀ v1 w1, w1.ownsRow base e size v1 (n + 1) (xs ++ ys) → Below base w0 w1 → W.grownBy w1 v.ownBlock → (v1.ownBlock = v.ownBlock ∨ ∃ b, v1.ownBlock = some b ∧ W.heap.size ≤ b) → wpList P ops Q rest (a.put o.dst v1) w1) :
    wpList P ops Q (o :: rest) a (W.alloc (.cells ys.toArray e)) := by
  obtain ⟨i0, hi, hzz⟩ := Option.map_eq_some_iff.1 hinfo
  simp only [Prod.mk.injEq] at hzz
  obtain ⟨hz0, hz1, hz2⟩ := hzz
  have hlen : n + 1 ≤ 140737488355328 := Nat.le_trans (Nat.le_mul_of_pos_right _ hb0) hl
  refine wpList_append_own_at (W.alloc (.cells ys.toArray e)) hgd s x t ho base e i0 z size bytes ht hi hz0 hz1 hz2 hz hs0 v n xs hs (HO.alloc _) ⟨W.heap.size, 0, none⟩ 1 1 ys hx (by rw [hys]; simp)
    (by simpa using World.news_of_block (cs := ys.toArray) (t := e) (fr := (0, 0)) (heap_alloc_new W (.cells ys.toArray e))) h1 (by simp only [maxLen]; omega) hl (by simp; omega) ?_
  intro v1 w1 hown hg _ hat
  refine h v1 w1 hown ((HB.alloc hbase _).grown hg (by simp; omega) (ny HO)) (World.grownBy.trans (World.grownBy_alloc W _ _) hg) ?_
  rcases hat with hat | hat
  · exact .inl hat
  · exact .inr ⟨_, hat, by simp⟩
end
theorem nW {w : World} {base : Nat} {e t : TypeId} {size n g : Nat} {v : Value} {xs : List Value} {cs : Array Value} (h : w.ownsRow base e size v n xs) (hg : w.heap[g]? = some (.cells cs t (0, 0))) (hne : e ≠ t) : some g ≠ v.ownBlock := by
 rcases h.2 with ⟨rfl, _⟩ | ⟨g', cap, cur, rfl, _, hh, _⟩
 · simp [Value.ownBlock]
 ·
  intro he; have : g = g' := by simpa [Value.ownBlock] using he
  subst this; rw [hg] at hh
  injection hh with hh
  injection hh with _ ht
  exact hne ht.symm
theorem Cy {w : World} {base : Nat} {e : TypeId} {size n : Nat} {v : Value} {xs : List Value} (h : w.ownsRow base e size v n xs) {p : Addr} (hne : some p.block ≠ v.ownBlock) (u : Value) : (w.setCell p u).ownsRow base e size v n xs := by
 obtain ⟨h1, h2⟩ := h; refine ⟨h1, ?_⟩
 rcases h2 with h2 | ⟨g, cap, cur, rfl, hg, hh, r⟩
 · exact .inl h2
 · exact .inr ⟨g, cap, cur, rfl, hg, by rw [Below.heap_setCell _ _ _ _ (fun e => hne (by rw [e]; rfl))]; exact hh, r⟩
theorem jt {w : World} {g : Nat} {t : TypeId} {cs : Array Value} (h : w.heap[g]? = some (.cells cs t (0, 0))) (i : Nat) (u : Value) : (w.setCell ⟨g, i, none⟩ u).heap[g]? = some (.cells (cs.setIfInBounds i u) t (0, 0)) := by
 simp [World.setCell, Array.getElem?_modify, h]
theorem iR {w : World} {g : Nat} {t : TypeId} {cs : Array Value} (h : w.heap[g]? = some (.cells cs t (0, 0))) {p : Addr} (hp : g ≠ p.block) (u : Value) : (w.setCell p u).heap[g]? = some (.cells cs t (0, 0)) := (Below.heap_setCell w p u g hp).trans h
theorem cY {w : World} {g : Nat} {o : Obj} (h : w.heap[g]? = some o) : g < w.heap.size := (Array.getElem?_eq_some_iff.1 h).1
theorem af {w : World} {g : Nat} {t : TypeId} {cs : Array Value} (h : w.heap[g]? = some (.cells cs t (0, 0))) (i : Nat) : w.cell? ⟨g, i, none⟩ = cs[i]? := cell_of_row w g i cs t (0, 0) h
theorem aj {w : World} {g : Nat} {t : TypeId} {cs : Array Value} (h : w.heap[g]? = some (.cells cs t (0, 0))) (i : Nat) : w.frozen? ⟨g, i, none⟩ = false := by simp [World.frozen?, h]
theorem eL {w w1 : World} {g : Nat} {o : Obj} {row : Option Nat} (h : w.heap[g]? = some o) (hg : w.grownBy w1 row) (hne : some g ≠ row) : w1.heap[g]? = some o := (hg.block g (cY h) hne).trans h
theorem Lp {w : World} {g g' : Nat} {t t' : TypeId} {cs cs' : Array Value} (h : w.heap[g]? = some (.cells cs t (0, 0))) (h' : w.heap[g']? = some (.cells cs' t' (0, 0))) (hne : t ≠ t') : g ≠ g' := by
 rintro rfl; rw [h] at h'
 injection h' with h'
 injection h' with _ ht
 exact hne ht
def bE (w w' : World) (g : Nat) (row : Option Nat) : Prop := w.heap.size ≤ w'.heap.size ∧ ∀ i, i < w.heap.size → i ≠ g → some i ≠ row → w'.heap[i]? = w.heap[i]?
theorem bE.refl (w : World) (g : Nat) (row : Option Nat) : bE w w g row := ⟨Nat.le_refl _, fun _ _ _ _ => rfl⟩
theorem bE.rT {w w1 : World} {row : Option Nat} (h : w.grownBy w1 row) (g : Nat) : bE w w1 g row := ⟨h.size, fun i hi _ hr => h.block i hi hr⟩
theorem bE.of_below {w w1 : World} (h : Below w.heap.size w w1) (g : Nat) (row : Option Nat) : bE w w1 g row := ⟨h.size, fun i hi _ _ => h.block i hi⟩
theorem bE.kL {w w1 : World} {g : Nat} {row : Option Nat} (h : bE w w1 g row) (j : Nat) (u : Value) : bE w (w1.setCell ⟨g, j, none⟩ u) g row :=
  ⟨by simpa [World.setCell] using h.1, fun i hi hg hr => (Below.heap_setCell w1 ⟨g, j, none⟩ u i hg).trans (h.2 i hi hg hr)⟩
theorem bE.trans {w w1 w2 : World} {g : Nat} {row row1 : Option Nat} (h : bE w w1 g row) (k : bE w1 w2 g row1) (hr : row1 = row ∨ ∃ b, row1 = some b ∧ w.heap.size ≤ b) : bE w w2 g row :=
  ⟨Nat.le_trans h.1 k.1, fun i hi hg hn => by
    refine (k.2 i (Nat.lt_of_lt_of_le hi h.1) hg ?_).trans (h.2 i hi hg hn)
    rcases hr with rfl | ⟨b, rfl, hb⟩
    · exact hn
    · intro e
      injection e with e
      omega⟩
theorem bE.blk {w w1 : World} {g g' : Nat} {row : Option Nat} {o : Obj} (h : bE w w1 g row) (hb : w.heap[g']? = some o) (hg : g' ≠ g) (hr : some g' ≠ row) : w1.heap[g']? = some o := (h.2 g' (cY hb) hg hr).trans hb
theorem bE.own {w w1 : World} {g : Nat} {row : Option Nat} {base : Nat} {e : TypeId} {size n : Nat} {v : Value} {xs : List Value} (h : bE w w1 g row) (ho : w.ownsRow base e size v n xs) (hg : v.ownBlock ≠ some g) (hr : v.ownBlock = none ∨ v.ownBlock ≠ row) : w1.ownsRow base e size v n xs := by
 obtain ⟨h1, h2⟩ := ho; refine ⟨h1, ?_⟩
 rcases h2 with h2 | ⟨b, cap, cur, rfl, hb, hh, r⟩
 · exact .inl h2
 ·
  refine .inr ⟨b, cap, cur, rfl, hb, h.blk hh ?_ ?_, r⟩
  ·
   intro e; exact hg (by rw [← e]; rfl)
  ·
   rcases hr with hr | hr
   · simp [Value.ownBlock] at hr
   · exact hr
def Ev {α : Type} (g : Nat → Option α) (r : α) : Prop := ∃ K, ∀ k, K ≤ k → g k = some r
theorem Ev.of {α : Type} {g : Nat → Option α} {r : α} (hg : ∀ k, LeO (g k) (g (k + 1))) {k : Nat} (h : g k = some r) : Ev g r := ⟨k, fun _ hk => Fv hg hk h⟩
theorem Ev.now {α : Type} (r : α) : Ev (fun _ => some r) r := ⟨0, fun _ _ => rfl⟩
theorem Ev.rounds {α : Type} {g : Nat → Option α} {r : α} (h : Ev g r) : ∃ k, g k = some r := by
 obtain ⟨K, h⟩ := h; exact ⟨K, h K (Nat.le_refl _)⟩
theorem Ev.bind {α β : Type} {g : Nat → Option α} {f : Nat → α → Option β} {a : α} {r : β} (h : Ev g a) (k : Ev (fun n => f n a) r) : Ev (fun n => (g n).bind (f n)) r := by
 obtain ⟨K, h⟩ := h; obtain ⟨K', k⟩ := k; refine ⟨max K K', fun n hn => ?_⟩; have h1 := h n (by omega); have h2 := k n (by omega); simp only [h1, Option.bind_some]; exact h2
theorem Ev.step {α : Type} {g f : Nat → Option α} {r : α} (h : ∀ k, g (k + 1) = f k) (k : Ev f r) : Ev g r := by
 obtain ⟨K, k⟩ := k; refine ⟨K + 1, fun n hn => ?_⟩; obtain ⟨m, rfl⟩ : ∃ m, n = m + 1 := ⟨n - 1, by omega⟩; rw [h]; exact k m (by omega)
theorem Ev.congr {α : Type} {g f : Nat → Option α} {r : α} (h : ∀ k, g k = f k) (k : Ev f r) : Ev g r := by
 obtain ⟨K, k⟩ := k; exact ⟨K, fun n hn => (h n).trans (k n hn)⟩
section
variable {P : Program} {ops : Array Oper} {o : Oper} {a : Act} {Q : Exit → Act → World → Prop} {K : Act → World → Prop}
theorem uF {w0 W : World} (base : Nat) (hw : Region.wanted o (yielded ops a.tmps) = true) (s x : Operand) (t e : TypeId) (z : Value) (size bytes : Nat)
    (ho : o.op = .call { callee := .builtin .append, args := #[s, x], argTypes := #[t, t] })
    (ht : P.underlying t = some (.slice e)) (hinfo : (P.info? e).map (fun i => (i.zero, i.size, i.bytes)) = some (some z, size, bytes)) (hz : z.cells.size = size) (hs0 : 0 < size) (hb0 : 0 < bytes)
    (v : Value) (n : Nat) (xs ys : List Value) (hs : a.eval s = v) (hx : a.eval x = .slice (some ⟨W.heap.size, 0, none⟩) 1 1) (hys : ys.length = size) (h1 : ∀ u ∈ ys, u.oneCell' = true)
    (HO : W.ownsRow base e size v n xs) (HB : Below base w0 W) (hbase : base ≤ W.heap.size) (hl : (n + 1) * bytes ≤ 140737488355328)
    (h : ∀ v1 w1, w1.ownsRow base e size v1 (n + 1) (xs ++ ys) → Below base w0 w1 → W.grownBy w1 v.ownBlock → (v1.ownBlock = v.ownBlock ∨ ∃ b, v1.ownBlock = some b ∧ W.heap.size ≤ b) → K (a.put o.dst v1) w1) :
    if Region.wanted o (yielded ops a.tmps) = true then Oper.wp P o a (W.alloc (.cells ys.toArray e)) K Q else K (a.put o.dst undef) (W.alloc (.cells ys.toArray e)) := by
  obtain ⟨i0, hi, hzz⟩ := Option.map_eq_some_iff.1 hinfo
  simp only [Prod.mk.injEq] at hzz
  obtain ⟨hz0, hz1, hz2⟩ := hzz
  have hlen : n + 1 ≤ 140737488355328 := Nat.le_trans (Nat.le_mul_of_pos_right _ hb0) hl
  rw [if_pos hw]
  obtain ⟨v1, w1, hr, hown, hg, _, hat⟩ := run_append_own_at (P := P) (W.alloc (.cells ys.toArray e)) base t o.type e i0 z size bytes ht hi hz0 hz1 hz2 hz hs0 v n xs (HO.alloc _) ⟨W.heap.size, 0, none⟩ 1 1 ys (by rw [hys]; simp)
    (by simpa using World.news_of_block (cs := ys.toArray) (t := e) (fr := (0, 0)) (heap_alloc_new W (.cells ys.toArray e))) h1 (by simp only [maxLen]; omega) hl (by simp; omega)
  unfold Oper.wp execOp
  simp only [ho, resolve, invoke, builtin, Sem.run_bind, Sem.run_pure, Result.andThen_ok, List.map_toArray, List.map_cons, List.map_nil, hs, hx, hr]
  refine h v1 w1 hown ((HB.alloc hbase _).grown hg (by simp; omega) (ny HO)) (World.grownBy.trans (World.grownBy_alloc W _ _) hg) ?_
  rcases hat with hat | hat
  · exact .inl hat
  · exact .inr ⟨_, hat, by simp⟩
end
theorem Dv {w : World} {base base' : Nat} {e : TypeId} {size n : Nat} {v : Value} {xs : List Value} (h : w.ownsRow base e size v n xs) (hb : base' ≤ base) : w.ownsRow base' e size v n xs := by
 obtain ⟨h1, h2⟩ := h; refine ⟨h1, ?_⟩
 rcases h2 with h2 | ⟨g, cap, cur, rfl, hg, r⟩
 · exact .inl h2
 · exact .inr ⟨g, cap, cur, rfl, Nat.le_trans hb hg, r⟩
section
variable {α : Type} {enc : α → Value} {d : α}
def encs (enc : α → Value) (xs : List α) : List Value := xs.map enc
def fW (d : α) (xs : List α) (i : Int) : α := xs.getD i.toNat d
theorem uJ (xs : List α) : (encs enc xs).length = xs.length := by simp [encs]
theorem GF (xs : List α) (j : Nat) (h : j < xs.length) : (encs enc xs)[j]? = some (enc (xs.getD j d)) := by
 simp [encs, List.getElem?_eq_getElem h, List.getD_eq_getElem?_getD]
def iy (enc : α → Value) (d : α) (w : World) (A : Option Addr) (n : Nat) (xs : List α) : Prop :=
  xs.length = n ∧ n ≤ 9223372036854775807 ∧ (0 < n → ∃ ad, A = some ad ∧ ∀ j, j < n → w.cell? (ad.add j) = some (enc (xs.getD j d)))
theorem iy.at_ {w : World} {A : Option Addr} {n : Nat} {xs : List α} (h : iy enc d w A n xs) (i : Int) (h0 : 0 ≤ i) (h1 : i < n) : ∃ ad, A = some ad ∧ w.cell? (ad.add i.toNat) = some (enc (fW d xs i)) := by
 obtain ⟨ad, e, hc⟩ := h.2.2 (by omega); exact ⟨ad, e, hc _ (by omega)⟩
theorem iy.below {w w1 : World} {A : Option Addr} {n : Nat} {xs : List α} (h : iy enc d w A n xs) (hb : Below w.heap.size w w1) : iy enc d w1 A n xs :=
  ⟨h.1, h.2.1, fun hn => by
    obtain ⟨ad, e, hc⟩ := h.2.2 hn
    exact ⟨ad, e, fun j hj => dI hb (hc j hj)⟩⟩
theorem iy.fY {w : World} {A : Option Addr} {n : Nat} {xs : List α} (h : iy enc d w A n xs) (i : Nat) (hi : i ≤ n) : iy enc d w A i (xs.take i) := by
 refine ⟨by rw [List.length_take, h.1]; omega, by have := h.2.1; omega, fun hp => ?_⟩; obtain ⟨ad, e, hc⟩ := h.2.2 (by omega); refine ⟨ad, e, fun j hj => ?_⟩; rw [hc j (by omega)]
 simp [List.getD_eq_getElem?_getD, hj]
theorem Fw {W : World} {base g n cap : Nat} {e : TypeId} {xs : List α} (h : W.ownsRow base e 1 (.slice (some ⟨g, 0, none⟩) n cap) n (encs enc xs)) (i : Int) (h0 : 0 ≤ i) (h1 : i < n) :
    W.cell? ⟨g, i.toNat, none⟩ = some (enc (fW d xs i)) ∧ W.frozen? ⟨g, i.toNat, none⟩ = false := by
 have hl : xs.length = n := by have := h.1; simp [encs] at this; exact this
 constructor
 ·
  have hc := h.cells (g := g) rfl i.toNat _ (GF (d := d) xs i.toNat (by omega))
  rwa [add_plain] at hc
 ·
  rcases h.2 with ⟨h', _⟩ | ⟨g', cap', cur, h', _, hh, _⟩
  · cases h'
  ·
   have : g = g' := by injection h' with h'; injection h' with h'; injection h' with h'
   subst this
   simp [World.frozen?, hh]
theorem Az {W : World} {base g n cap : Nat} {e : TypeId} {xs : List α} (h : W.ownsRow base e 1 (.slice (some ⟨g, 0, none⟩) n cap) n (encs enc xs)) (i : Int) (x : α) :
    (W.setCell ⟨g, i.toNat, none⟩ (enc x)).ownsRow base e 1 (.slice (some ⟨g, 0, none⟩) n cap) n (encs enc (xs.set i.toNat x)) ∧ W.grownBy (W.setCell ⟨g, i.toNat, none⟩ (enc x)) (some g) := by
 have hs := h.stored i.toNat (enc x); have he : (encs enc xs).set i.toNat (enc x) = encs enc (xs.set i.toNat x) := by simp [encs, List.map_set]
 rwa [he] at hs
end
section
variable {α : Type} {P : Program} {ops : Array Oper} {rest : List Oper} {o : Oper} {a : Act} {Q : Exit → Act → World → Prop}
end
theorem bx {w : World} {g : Nat} {o : Obj} (h : w.heap[g]? = some o) (o' : Obj) : (w.alloc o').heap[g]? = some o := (Below.heap_alloc w o' g (cY h)).trans h
theorem cQ {w : World} {g : Nat} {o : Obj} (h : w.heap[g]? = some o) : w.drew.heap[g]? = some o := h
theorem bz {w : World} {g : Nat} {o : Obj} (h : w.heap[g]? = some o) (n : Nat) : (w.drewN n).heap[g]? = some o := h
theorem aX {w w1 : World} {g : Nat} {o : Obj} (h : w.heap[g]? = some o) (hb : Below w.heap.size w w1) : w1.heap[g]? = some o := (hb.block g (cY h)).trans h
theorem eJ (w : World) (o : Obj) : (w.alloc o).heap[w.heap.size]? = some o := heap_alloc_new w o
section
variable {P : Program}
end
theorem Lr {w : World} {base n m c size : Nat} {e : TypeId} {A : Option Addr} {xs : List Value} (h : w.ownsRow base e size (.slice A m c) n xs) : m ≤ c := by
 rcases h.2 with ⟨he, _⟩ | ⟨g, cap, cur, he, _, _, hnc, _⟩
 ·
  injection he with _ h2 h3
  omega
 ·
  injection he with _ h2 h3
  omega
def gK {α : Type} (R : α → List Value → Prop) (e : TypeId) (size : Nat) (w : World) (base : Nat) (v : Value) (ps : List α) : Prop :=
  ∃ inner, w.ownsRow base e size v ps.length inner ∧ bK R size ps inner
section
variable {α : Type} {R R' : α → List Value → Prop} {e : TypeId} {size : Nat} {w w1 : World} {base : Nat} {v : Value} {ps : List α}
theorem gK.none_ (R : α → List Value → Prop) (e : TypeId) (size : Nat) (w : World) (base : Nat) : gK R e size w base (.slice none 0 0) [] := ⟨[], JW _ _ _ _, bK.none _ _⟩
theorem gK.kK (h : gK R e size w base v ps) (hR : ∀ p c, R p c → R' p c) : gK R' e size w base v ps := by
 obtain ⟨inner, ho, hr⟩ := h; exact ⟨inner, ho, hr.kK hR⟩
theorem gK.below (h : gK R e size w base v ps) (hb : Below w.heap.size w w1) : gK R e size w1 base v ps := by
 obtain ⟨inner, ho, hr⟩ := h; exact ⟨inner, Ay ho hb, hr⟩
theorem gK.kL (h : gK R e size w base v ps) {g : Nat} {t : TypeId} {cells : Array Value} (hb : w.heap[g]? = some (.cells cells t (0, 0))) (ht : e ≠ t) (j : Nat) (u : Value) : gK R e size (w.setCell ⟨g, j, none⟩ u) base v ps := by
 obtain ⟨inner, ho, hr⟩ := h; exact ⟨inner, Cy ho (nW ho hb ht) u, hr⟩
theorem gK.reads (h : gK R e size w base v ps) : ∃ A c, v = .slice A ps.length c ∧ ps.length ≤ c ∧ gT R size w A ps.length ps := by
 obtain ⟨inner, ho, hr⟩ := h; obtain ⟨A, c, rfl, hrow⟩ := zy ho hr rfl; exact ⟨A, c, rfl, Lr ho, hrow⟩
theorem gK.GG (h : gK R e size w base v ps) {g : Nat} {t : TypeId} {cells : Array Value} (hb : w.heap[g]? = some (.cells cells t (0, 0))) (ht : e ≠ t) : some g ≠ v.ownBlock := by
 obtain ⟨inner, ho, hr⟩ := h; exact nW ho hb ht
theorem gK.lit (W : World) (base : Nat) {inner : List Value} (hr : bK R size ps inner) (hb : base ≤ W.heap.size) (hm : ps.length ≤ 9223372036854775807) :
    gK R e size (W.alloc (.cells inner.toArray e)) base (.slice (some ⟨W.heap.size, 0, none⟩) ps.length ps.length) ps := by
 have h := World.ownsRow_lit (base := base) (e := e) (size := size) W inner.toArray ps.length hb (by simpa [maxLen] using hm) (by simpa using hr.1); exact ⟨inner, by simpa using h, hr⟩
end
section
variable {P : Program} {ops : Array Oper} {rest : List Oper} {o : Oper} {a : Act} {Q : Exit → Act → World → Prop} {α : Type} {R : α → List Value → Prop}
theorem gK.append {w0 W : World} (base : Nat) (hgd : o.guard = none) (s x : Operand) (t e : TypeId) (z : Value) (size bytes : Nat)
    (ho : o.op = .call { callee := .builtin .append, args := #[s, x], argTypes := #[t, t] })
    (ht : P.underlying t = some (.slice e)) (hinfo : (P.info? e).map (fun i => (i.zero, i.size, i.bytes)) = some (some z, size, bytes)) (hz : z.cells.size = size) (hs0 : 0 < size) (hb0 : 0 < bytes)
    (v : Value) (ps : List α) (p : α) (cs : List Value) (hs : a.eval s = v) (hx : a.eval x = .slice (some ⟨W.heap.size, 0, none⟩) 1 1) (hp : R p cs) (hcs : cs.length = size) (h1 : ∀ u ∈ cs, u.oneCell' = true)
    (HO : gK R e size W base v ps) (HB : Below base w0 W) (hbase : base ≤ W.heap.size) (hl : (ps.length + 1) * bytes ≤ 140737488355328)
    (h : ∀ v1 w1, gK R e size w1 base v1 (ps ++ [p]) → Below base w0 w1 → W.grownBy w1 v.ownBlock → (v1.ownBlock = v.ownBlock ∨ ∃ b, v1.ownBlock = some b ∧ W.heap.size ≤ b) → wpList P ops Q rest (a.put o.dst v1) w1) :
    wpList P ops Q (o :: rest) a (W.alloc (.cells cs.toArray e)) := by
  obtain ⟨inner, hown, hr⟩ := HO
  refine nV base hgd s x t e z size bytes ho ht hinfo hz hs0 hb0 v ps.length inner cs hs hx hcs h1 hown HB hbase hl ?_
  intro v1 w1 hown1 hb1 hg1 hat1
  exact h v1 w1 ⟨inner ++ cs, by rw [List.length_append, List.length_singleton]; exact hown1, hr.snoc hp hcs⟩ hb1 hg1 hat1
end
section
variable {P : Program} {ops : Array Oper} {o : Oper} {a : Act} {Q : Exit → Act → World → Prop} {K : Act → World → Prop} {α : Type} {R : α → List Value → Prop}
end
theorem gT.Fx {α : Type} {R : α → List Value → Prop} {size : Nat} {w : World} {ad : Addr} {n : Nat} {ps : List α} (h : gT R size w (some ad) n ps) :
    ∃ inner, bK R size ps inner ∧ ∀ j u, inner[j]? = some u → w.cell? (ad.add j) = some u := by
 have key : ∀ m, m ≤ ps.length → ∃ inner, bK R size (ps.take m) inner ∧ ∀ j u, inner[j]? = some u → w.cell? (ad.add j) = some u := by
  intro m
  induction m with
  | zero => exact fun _ => ⟨[], bK.none _ _, fun j u hu => by simp at hu⟩
  | succ m ih =>
   intro hm; obtain ⟨inner, hr, hc⟩ := ih (by omega); obtain ⟨ad', he, hcell⟩ := h.2.2 (by have := h.1; omega)
   injection he with he
   subst he; obtain ⟨c, hcl, hp, hcc⟩ := hcell m _ (List.getElem?_eq_getElem (show m < ps.length by omega)); refine ⟨inner ++ c, ?_, fun j u hu => ?_⟩
   ·
    rw [List.take_succ_eq_append_getElem (show m < ps.length by omega)]; exact hr.snoc hp hcl
   ·
    have hil : inner.length = m * size := by rw [hr.1, List.length_take, Nat.min_eq_left (by omega)]
    rcases Nat.lt_or_ge j inner.length with hj | hj
    ·
     rw [List.getElem?_append_left hj] at hu; exact hc j u hu
    ·
     rw [List.getElem?_append_right hj] at hu; have := hcc (j - inner.length) u hu
     rwa [hil, Nat.add_sub_cancel' (by omega)] at this
 obtain ⟨inner, hr, hc⟩ := key ps.length (Nat.le_refl _); rw [List.take_length] at hr; exact ⟨inner, hr, hc⟩
section
variable {α : Type} {P : Program}
end
section
variable {P : Program} {ops : Array Oper} {rest : List Oper} {o : Oper} {a : Act} {Q : Exit → Act → World → Prop}
end
structure Kd (α : Type) where
  sz : Nat
  E : List Nat
  K : World → α → List Value → Prop
  M : World → Nat → (Nat → Prop) → α → List Value → Prop
  K_len : ∀ {w x cs}, K w x cs → cs.length = sz
  K_one : ∀ {w x cs}, K w x cs → ∀ u ∈ cs, u.oneCell' = true
  K_below : ∀ {w w1 : World} {x cs}, Below w.heap.size w w1 → K w x cs → K w1 x cs
  K_of_M : ∀ {w base ok x cs}, M w base ok x cs → K w x cs
  M_mono : ∀ {w base ok ok' x cs}, (∀ k, ok k → ok' k) → M w base ok x cs → M w base ok' x cs
  M_bound : ∀ {w : World} {base ok x cs}, M w base ok x cs → M w base (fun k => ok k ∧ base ≤ k ∧ k < w.heap.size ∧ ∃ q, q ∈ E ∧ ∃ cells, w.heap[k]? = some (.cells cells q (0, 0))) x cs
  M_move : ∀ {w w1 : World} {base ok x cs}, (∀ k, ok k → w1.heap[k]? = w.heap[k]?) → M w base ok x cs → M w1 base ok x cs
  M_lower : ∀ {w base base' ok x cs}, base' ≤ base → M w base ok x cs → M w base' ok x cs
theorem GH {w w1 : World} {base : Nat} {e : TypeId} {size n : Nat} {v : Value} {xs : List Value} (h : w.ownsRow base e size v n xs) (hm : ∀ k, v.ownBlock = some k → w1.heap[k]? = w.heap[k]?) : w1.ownsRow base e size v n xs := by
 obtain ⟨h1, h2⟩ := h; refine ⟨h1, ?_⟩
 rcases h2 with h2 | ⟨g, cap, cur, rfl, hg, hh, r⟩
 · exact .inl h2
 · exact .inr ⟨g, cap, cur, rfl, hg, (hm g (by simp [Value.ownBlock])).trans hh, r⟩
theorem nX {w : World} {base : Nat} {e : TypeId} {size n : Nat} {v : Value} {xs : List Value} (h : w.ownsRow base e size v n xs) (k : Nat) (hk : v.ownBlock = some k) : ∃ cells, w.heap[k]? = some (.cells cells e (0, 0)) := by
 rcases h.2 with ⟨rfl, _⟩ | ⟨g, cap, cur, rfl, hg, hh, r⟩
 · simp [Value.ownBlock] at hk
 ·
  have : g = k := by simpa [Value.ownBlock] using hk
  subst this; exact ⟨cur, hh⟩
namespace Kd
def C {α : Type} (d : Kd α) (w : World) (A : Option Addr) (n : Nat) (xs : List α) : Prop := gT (d.K w) d.sz w A n xs
def R {α : Type} (d : Kd α) (e : Nat) (w : World) (base : Nat) (ok : Nat → Prop) (v : Value) (xs : List α) : Prop :=
  (∀ k, v.ownBlock = some k → ok k) ∧ gK (d.M w base (fun k => ok k ∧ some k ≠ v.ownBlock)) e d.sz w base v xs
section
variable {α : Type} {d : Kd α} {e : Nat} {w w1 : World} {base : Nat} {ok ok' : Nat → Prop} {v : Value} {xs : List α}
theorem fc {A : Option Addr} {n : Nat} (h : d.C w A n xs) (hb : Below w.heap.size w w1) : d.C w1 A n xs := gT.kK h hb (fun _ _ hp => d.K_below hb hp)
theorem iE (d : Kd α) (e : Nat) (w : World) (base : Nat) (ok : Nat → Prop) : d.R e w base ok (.slice none 0 0) [] := ⟨fun k hk => by simp [Value.ownBlock] at hk, gK.none_ _ _ _ _ _⟩
theorem au (h : d.R e w base ok v xs) (hok : ∀ k, ok k → ok' k) : d.R e w base ok' v xs := ⟨fun k hk => hok k (h.1 k hk), h.2.kK (fun _ _ hp => d.M_mono (fun k hk => ⟨hok k hk.1, hk.2⟩) hp)⟩
theorem kG (h : d.R e w base ok v xs) : d.R e w base (fun k => ok k ∧ base ≤ k ∧ k < w.heap.size ∧ ∃ q, q ∈ e :: d.E ∧ ∃ cells, w.heap[k]? = some (.cells cells q (0, 0))) v xs := by
 obtain ⟨h0, inner, ho, hr⟩ := h; refine ⟨fun k hk => ?_, inner, ho, hr.kK (fun _ _ hp => d.M_mono (fun k hk => ?_) (d.M_bound hp))⟩
 ·
  obtain ⟨cells, hc⟩ := nX ho k hk; exact ⟨h0 k hk, ny ho k hk, Fu ho k hk, e, List.mem_cons_self, cells, hc⟩
 ·
  obtain ⟨⟨h1, h2⟩, h3, h4, q, hq, hc⟩ := hk; exact ⟨⟨h1, h3, h4, q, List.mem_cons_of_mem _ hq, hc⟩, h2⟩
theorem o4 (h : d.R e w base ok v xs) (hm : ∀ k, ok k → w1.heap[k]? = w.heap[k]?) : d.R e w1 base ok v xs := by
 obtain ⟨h0, inner, ho, hr⟩ := h; exact ⟨h0, inner, GH ho (fun k hk => hm k (h0 k hk)), hr.kK (fun _ _ hp => d.M_move (fun k hk => hm k hk.1) hp)⟩
theorem cV {base' : Nat} (h : d.R e w base ok v xs) (hb : base' ≤ base) : d.R e w base' ok v xs := by
 obtain ⟨h0, inner, ho, hr⟩ := h; exact ⟨h0, inner, Dv ho hb, hr.kK (fun _ _ hp => d.M_lower hb hp)⟩
theorem qg (h : d.R e w base ok v xs) (hm : ∀ k, ok k → k < w.heap.size → w1.heap[k]? = w.heap[k]?) : d.R e w1 base ok v xs :=
  au (o4 (kG h) (fun k hk => hm k hk.1 hk.2.2.1)) (fun _ hk => hk.1)
theorem Fy {x : α} {cs : List Value} (h : d.M w base ok x cs) (hm : ∀ k, ok k → k < w.heap.size → w1.heap[k]? = w.heap[k]?) : d.M w1 base ok x cs :=
  d.M_mono (fun _ hk => hk.1) (d.M_move (fun k hk => hm k hk.1 hk.2.2.1) (d.M_bound h))
theorem gG (h : d.R e w base ok v xs) (hb : Below w.heap.size w w1) : d.R e w1 base ok v xs := qg h (fun k _ hk => hb.block k hk)
theorem CP {x : α} {cs : List Value} (h : d.M w base ok x cs) (hb : Below w.heap.size w w1) : d.M w1 base ok x cs := Fy h (fun k _ hk => hb.block k hk)
theorem CQ (h : d.R e w base ok v xs) {row : Option Nat} (hg : w.grownBy w1 row) (hok : ∀ k, ok k → some k ≠ row) : d.R e w1 base ok v xs := qg h (fun k ho hk => hg.block k hk (hok k ho))
theorem eu (h : d.R e w base ok v xs) {p : Addr} (hok : ∀ k, ok k → k ≠ p.block) (u : Value) : d.R e (w.setCell p u) base ok v xs := qg h (fun k ho _ => Below.heap_setCell w p u k (hok k ho))
theorem di (h : d.R e w base ok v xs) {g : Nat} (hk : bE w w1 g none) (hok : ∀ k, ok k → k ≠ g) : d.R e w1 base ok v xs := qg h (fun k ho hlt => hk.2 k hlt (hok k ho) (by simp))
theorem kH (h : d.R e w base ok v xs) {g t : Nat} {cells : Array Value} (hb : w.heap[g]? = some (.cells cells t (0, 0))) (ht : ∀ q, q ∈ e :: d.E → q ≠ t) : d.R e w base (fun k => ok k ∧ k ≠ g) v xs :=
  au (kG h) (fun k hk => ⟨hk.1, by
    obtain ⟨_, _, _, q, hq, cells', hc⟩ := hk
    rintro rfl
    rw [hc] at hb
    injection hb with hb
    injection hb with _ hb
    exact ht q hq hb⟩)
theorem zG (h : d.R e w base ok v xs) {g t : Nat} {cells : Array Value} (hb : w.heap[g]? = some (.cells cells t (0, 0))) (ht : ∀ q, q ∈ e :: d.E → q ≠ t) (j : Nat) (u : Value) : d.R e (w.setCell ⟨g, j, none⟩ u) base ok v xs :=
  au (eu (p := ⟨g, j, none⟩) (kH h hb ht) (fun _ hk => hk.2) u) (fun _ hk => hk.1)
theorem xy (h : d.R e w base ok v xs) : ∃ A c, v = .slice A xs.length c ∧ xs.length ≤ c ∧ d.C w A xs.length xs := by
 obtain ⟨A, c, he, hl, hr⟩ := gK.reads h.2; exact ⟨A, c, he, hl, hr.kK (Below.refl _ _) (fun _ _ hp => d.K_of_M hp)⟩
theorem bu (h : d.R e w base ok v xs) : ∃ A c, v = .slice A xs.length c := by
 obtain ⟨A, c, he, _⟩ := xy h; exact ⟨A, c, he⟩
theorem vO (h : d.R e w base ok v xs) : ∃ inner, w.ownsRow base e d.sz v xs.length inner := by
 obtain ⟨_, inner, ho, _⟩ := h; exact ⟨inner, ho⟩
theorem l9 (h : d.R e w base ok v xs) {g t : Nat} {cells : Array Value} (hb : w.heap[g]? = some (.cells cells t (0, 0))) (ht : e ≠ t) : some g ≠ v.ownBlock := gK.GG h.2 hb ht
end
def scalar {α : Type} (enc : α → Value) (h1 : ∀ x, (enc x).oneCell' = true) : Kd α where
  sz := 1
  E := []
  K := fun _ x cs => cs = [enc x]
  M := fun _ _ _ x cs => cs = [enc x]
  K_len := fun h => by rw [h]; rfl
  K_one := fun h u hu => by
    rw [h] at hu
    rw [List.mem_singleton.1 hu]
    exact h1 _
  K_below := fun _ h => h
  K_of_M := fun h => h
  M_mono := fun _ h => h
  M_bound := fun h => h
  M_move := fun _ h => h
  M_lower := fun _ h => h
def int (k : IntKind) : Kd Int := scalar (Value.int k) (fun _ => rfl)
def bool : Kd Bool := scalar Value.bool (fun _ => rfl)
def string : Kd ByteArray := scalar Value.string (fun _ => rfl)
def slice {α : Type} (e : Nat) (d : Kd α) : Kd (List α) where
  sz := 1
  E := e :: d.E
  K := fun w xs cs => ∃ A c, cs = [.slice A xs.length c] ∧ xs.length ≤ c ∧ d.C w A xs.length xs
  M := fun w base ok xs cs => ∃ v, cs = [v] ∧ d.R e w base ok v xs
  K_len := by
    rintro w x cs ⟨A, c, rfl, _⟩
    rfl
  K_one := by
    rintro w x cs ⟨A, c, rfl, _⟩ u hu
    rw [List.mem_singleton.1 hu]
    rfl
  K_below := by
    rintro w w1 x cs hb ⟨A, c, rfl, hl, hr⟩
    exact ⟨A, c, rfl, hl, fc hr hb⟩
  K_of_M := by
    rintro w base ok x cs ⟨v, rfl, h⟩
    obtain ⟨A, c, rfl, hl, hr⟩ := xy h
    exact ⟨A, c, rfl, hl, hr⟩
  M_mono := by
    rintro w base ok ok' x cs hok ⟨v, rfl, h⟩
    exact ⟨v, rfl, au h hok⟩
  M_bound := by
    rintro w base ok x cs ⟨v, rfl, h⟩
    exact ⟨v, rfl, kG h⟩
  M_move := by
    rintro w w1 base ok x cs hm ⟨v, rfl, h⟩
    exact ⟨v, rfl, o4 h hm⟩
  M_lower := by
    rintro w base base' ok x cs hb ⟨v, rfl, h⟩
    exact ⟨v, rfl, cV h hb⟩
def pair {α β : Type} (a : Kd α) (b : Kd β) : Kd (α × β) where
  sz := a.sz + b.sz
  E := a.E ++ b.E
  K := fun w x cs => ∃ c0 c1, cs = c0 ++ c1 ∧ a.K w x.1 c0 ∧ b.K w x.2 c1
  M := fun w base ok x cs => ∃ c0 c1, cs = c0 ++ c1 ∧ a.M w base ok x.1 c0 ∧ b.M w base ok x.2 c1
  K_len := by
    rintro w x cs ⟨c0, c1, rfl, h0, h1⟩
    rw [List.length_append, a.K_len h0, b.K_len h1]
  K_one := by
    rintro w x cs ⟨c0, c1, rfl, h0, h1⟩ u hu
    rcases List.mem_append.1 hu with hu | hu
    · exact a.K_one h0 u hu
    · exact b.K_one h1 u hu
  K_below := by
    rintro w w1 x cs hb ⟨c0, c1, rfl, h0, h1⟩
    exact ⟨c0, c1, rfl, a.K_below hb h0, b.K_below hb h1⟩
  K_of_M := by
    rintro w base ok x cs ⟨c0, c1, rfl, h0, h1⟩
    exact ⟨c0, c1, rfl, a.K_of_M h0, b.K_of_M h1⟩
  M_mono := by
    rintro w base ok ok' x cs hok ⟨c0, c1, rfl, h0, h1⟩
    exact ⟨c0, c1, rfl, a.M_mono hok h0, b.M_mono hok h1⟩
  M_bound := by
    rintro w base ok x cs ⟨c0, c1, rfl, h0, h1⟩
    refine ⟨c0, c1, rfl, a.M_mono ?_ (a.M_bound h0), b.M_mono ?_ (b.M_bound h1)⟩
    · rintro k ⟨h2, h3, h4, q, hq, hc⟩
      exact ⟨h2, h3, h4, q, List.mem_append_left _ hq, hc⟩
    · rintro k ⟨h2, h3, h4, q, hq, hc⟩
      exact ⟨h2, h3, h4, q, List.mem_append_right _ hq, hc⟩
  M_move := by
    rintro w w1 base ok x cs hm ⟨c0, c1, rfl, h0, h1⟩
    exact ⟨c0, c1, rfl, a.M_move hm h0, b.M_move hm h1⟩
  M_lower := by
    rintro w base base' ok x cs hb ⟨c0, c1, rfl, h0, h1⟩
    exact ⟨c0, c1, rfl, a.M_lower hb h0, b.M_lower hb h1⟩
def iso {α β : Type} (d : Kd α) (f : β → α) : Kd β where
  sz := d.sz
  E := d.E
  K := fun w x cs => d.K w (f x) cs
  M := fun w base ok x cs => d.M w base ok (f x) cs
  K_len := d.K_len
  K_one := d.K_one
  K_below := d.K_below
  K_of_M := d.K_of_M
  M_mono := d.M_mono
  M_bound := d.M_bound
  M_move := d.M_move
  M_lower := d.M_lower
def bot {α : Type} (sz : Nat) (E : List Nat) : Kd α where
  sz := sz
  E := E
  K := fun _ _ _ => False
  M := fun _ _ _ _ _ => False
  K_len := fun h => h.elim
  K_one := fun h => h.elim
  K_below := fun _ h => h
  K_of_M := fun h => h
  M_mono := fun _ h => h
  M_bound := fun h => h
  M_move := fun _ h => h
  M_lower := fun _ h => h
def upto {α : Type} (F : Kd α → Kd α) (sz : Nat) (E : List Nat) : Nat → Kd α
  | 0 => bot sz E
  | n + 1 => F (upto F sz E n)
theorem pI {α : Type} {d : Kd α} {w : World} {A : Option Addr} {n : Nat} {xs : List α} (h : d.C w A n xs) (z : α) (i : Int) (h0 : 0 ≤ i) (h1 : i < n) :
    ∃ ad c, A = some ad ∧ c.length = d.sz ∧ d.K w (xs.getD i.toNat z) c ∧ ∀ j u, c[j]? = some u → w.cell? (ad.add (i.toNat * d.sz + j)) = some u := gT.P3 h z i h0 h1
theorem vP {α : Type} {d : Kd α} {e base : Nat} {ok okp : Nat → Prop} {W w1 : World} {v v1 : Value} {xs : List α} {p : α} {inner cs : List Value} (h0 : ∀ k, v.ownBlock = some k → ok k) (hr : bK (d.M W base (fun k => ok k ∧ some k ≠ v.ownBlock)) d.sz xs inner) (hp : d.M W base okp p cs) (hokp : ∀ k, okp k → ok k ∧ some k ≠ v.ownBlock) (hfresh : ∀ k, W.heap.size ≤ k → ok k)
    (hown : w1.ownsRow base e d.sz v1 (xs.length + 1) (inner ++ cs)) (hg : W.grownBy w1 v.ownBlock) (hat : v1.ownBlock = v.ownBlock ∨ ∃ b, v1.ownBlock = some b ∧ W.heap.size ≤ b) : d.R e w1 base ok v1 (xs ++ [p]) := by
 have hne : ∀ k, some k ≠ v.ownBlock → k < W.heap.size → some k ≠ v1.ownBlock := by
  intro k hk hlt
  rcases hat with hat | ⟨b, hb, hle⟩
  · rw [hat]; exact hk
  ·
   rw [hb]; intro he
   injection he with he
   omega
 have step : ∀ {q : α} {c : List Value} {o : Nat → Prop}, d.M W base o q c → (∀ k, o k → ok k ∧ some k ≠ v.ownBlock) → d.M w1 base (fun k => ok k ∧ some k ≠ v1.ownBlock) q c := by
  intro q c o hq ho; have h1 := d.M_move (w1 := w1) (fun k hk => hg.block k hk.2.2.1 (ho k hk.1).2) (d.M_bound hq); exact d.M_mono (fun k hk => ⟨(ho k hk.1).1, hne k (ho k hk.1).2 hk.2.2.1⟩) h1
 refine ⟨fun k hk => ?_, inner ++ cs, by rw [List.length_append, List.length_singleton]; exact hown, ?_⟩
 ·
  rcases hat with hat | ⟨b, hb, hle⟩
  · exact h0 k (hat ▸ hk)
  ·
   rw [hb] at hk
   injection hk with hk
   exact hfresh k (by omega)
 · exact (hr.kK (fun _ _ hq => step hq (fun _ hk => hk))).snoc (step hp hokp) (d.K_len (d.K_of_M hp))
section
variable {P : Program} {ops : Array Oper} {rest : List Oper} {o : Oper} {a : Act} {Q : Exit → Act → World → Prop} {α : Type}
theorem gQ (d : Kd α) {w0 W : World} (base : Nat) (hgd : o.guard = none) (s x : Operand) (t e : TypeId) (z : Value) (bytes : Nat)
    (ho : o.op = .call { callee := .builtin .append, args := #[s, x], argTypes := #[t, t] })
    (ht : P.underlying t = some (.slice e)) (hinfo : (P.info? e).map (fun i => (i.zero, i.size, i.bytes)) = some (some z, d.sz, bytes)) (hz : z.cells.size = d.sz) (hs0 : 0 < d.sz) (hb0 : 0 < bytes)
    (v : Value) (xs : List α) (p : α) (cs : List Value) (ok okp : Nat → Prop) (hs : a.eval s = v) (hx : a.eval x = .slice (some ⟨W.heap.size, 0, none⟩) 1 1) (hp : d.M W base okp p cs) (hokp : ∀ k, okp k → ok k ∧ some k ≠ v.ownBlock) (hfresh : ∀ k, W.heap.size ≤ k → ok k)
    (HO : d.R e W base ok v xs) (HB : Below base w0 W) (hbase : base ≤ W.heap.size) (hl : (xs.length + 1) * bytes ≤ 140737488355328)
    (h : ∀ v1 w1, d.R e w1 base ok v1 (xs ++ [p]) → Below base w0 w1 → W.grownBy w1 v.ownBlock → (v1.ownBlock = v.ownBlock ∨ ∃ b, v1.ownBlock = some b ∧ W.heap.size ≤ b) → wpList P ops Q rest (a.put o.dst v1) w1) :
    wpList P ops Q (o :: rest) a (W.alloc (.cells cs.toArray e)) := by
  obtain ⟨h0, inner, hown, hr⟩ := HO
  refine nV base hgd s x t e z d.sz bytes ho ht hinfo hz hs0 hb0 v xs.length inner cs hs hx (d.K_len (d.K_of_M hp)) (d.K_one (d.K_of_M hp)) hown HB hbase hl ?_
  intro v1 w1 hown1 hb1 hg1 hat1
  exact h v1 w1 (vP h0 hr hp hokp hfresh hown1 hg1 hat1) hb1 hg1 hat1
end
section
variable {P : Program} {ops : Array Oper} {o : Oper} {a : Act} {Q : Exit → Act → World → Prop} {Kc : Act → World → Prop} {α : Type}
theorem sS (d : Kd α) {w0 W : World} (base : Nat) (hw : Region.wanted o (yielded ops a.tmps) = true) (s x : Operand) (t e : TypeId) (z : Value) (bytes : Nat)
    (ho : o.op = .call { callee := .builtin .append, args := #[s, x], argTypes := #[t, t] })
    (ht : P.underlying t = some (.slice e)) (hinfo : (P.info? e).map (fun i => (i.zero, i.size, i.bytes)) = some (some z, d.sz, bytes)) (hz : z.cells.size = d.sz) (hs0 : 0 < d.sz) (hb0 : 0 < bytes)
    (v : Value) (xs : List α) (p : α) (cs : List Value) (ok okp : Nat → Prop) (hs : a.eval s = v) (hx : a.eval x = .slice (some ⟨W.heap.size, 0, none⟩) 1 1) (hp : d.M W base okp p cs) (hokp : ∀ k, okp k → ok k ∧ some k ≠ v.ownBlock) (hfresh : ∀ k, W.heap.size ≤ k → ok k)
    (HO : d.R e W base ok v xs) (HB : Below base w0 W) (hbase : base ≤ W.heap.size) (hl : (xs.length + 1) * bytes ≤ 140737488355328)
    (h : ∀ v1 w1, d.R e w1 base ok v1 (xs ++ [p]) → Below base w0 w1 → W.grownBy w1 v.ownBlock → (v1.ownBlock = v.ownBlock ∨ ∃ b, v1.ownBlock = some b ∧ W.heap.size ≤ b) → Kc (a.put o.dst v1) w1) :
    if Region.wanted o (yielded ops a.tmps) = true then Oper.wp P o a (W.alloc (.cells cs.toArray e)) Kc Q else Kc (a.put o.dst undef) (W.alloc (.cells cs.toArray e)) := by
  obtain ⟨h0, inner, hown, hr⟩ := HO
  refine uF base hw s x t e z d.sz bytes ho ht hinfo hz hs0 hb0 v xs.length inner cs hs hx (d.K_len (d.K_of_M hp)) (d.K_one (d.K_of_M hp)) hown HB hbase hl ?_
  intro v1 w1 hown1 hb1 hg1 hat1
  exact h v1 w1 (vP h0 hr hp hokp hfresh hown1 hg1 hat1) hb1 hg1 hat1
end
theorem Cz {α : Type} {enc : α → Value} (xs : List α) : bK (fun (x : α) (cs : List Value) => cs = [enc x]) 1 xs (encs enc xs) := by
 refine ⟨by simp [encs], fun j p hj => ?_⟩; obtain ⟨hl, hp⟩ := List.getElem?_eq_some_iff.1 hj; have hl' : j < (encs enc xs).length := by rw [uJ]; exact hl
 rw [Nat.mul_one, List.drop_eq_getElem_cons hl']
 simp [encs, hp]
theorem rU {α : Type} {enc : α → Value} {h1 : ∀ x, (enc x).oneCell' = true} {e : Nat} {w : World} {base : Nat} {ok : Nat → Prop} {v : Value} {xs : List α} (ho : w.ownsRow base e 1 v xs.length (encs enc xs)) (hok : ∀ k, v.ownBlock = some k → ok k) : (scalar enc h1).R e w base ok v xs := ⟨hok, encs enc xs, ho, Cz xs⟩
theorem uX {α : Type} {enc : α → Value} {h1 : ∀ x, (enc x).oneCell' = true} {e : Nat} {w : World} {base : Nat} {ok : Nat → Prop} {v : Value} {xs : List α} (h : (scalar enc h1).R e w base ok v xs) : w.ownsRow base e 1 v xs.length (encs enc xs) := by
 obtain ⟨_, inner, ho, hr⟩ := h
 have : inner = encs enc xs := by
  apply List.ext_getElem?
  intro j
  rcases Nat.lt_or_ge j xs.length with hj | hj
  ·
   have h2 := hr.2 j _ (List.getElem?_eq_getElem hj); have hl : j < inner.length := by have := hr.1; simp [scalar] at this; omega
   have h3 : (inner.drop (j * 1)).take 1 = [enc xs[j]] := h2; rw [Nat.mul_one, List.drop_eq_getElem_cons hl] at h3
   have h4 : inner[j] = enc xs[j] := by
    have h5 := congrArg List.head? h3; rw [List.take_succ_cons] at h5; exact Option.some.inj h5
   rw [List.getElem?_eq_getElem hl, h4]
   simp [encs, List.getElem?_eq_getElem hj]
  ·
   have h3 : inner.length = xs.length := by have := hr.1; simp [scalar] at this; omega
   rw [List.getElem?_eq_none (by omega), List.getElem?_eq_none (by rw [uJ]; omega)]
 rw [← this]; exact ho
theorem rV {α : Type} {enc : α → Value} {d : α} {h1 : ∀ x, (enc x).oneCell' = true} {w : World} {A : Option Addr} {n : Nat} {xs : List α} (h : (scalar enc h1).C w A n xs) : iy enc d w A n xs := by
 refine ⟨h.1, h.2.1, fun hn => ?_⟩; obtain ⟨ad, e, hc⟩ := h.2.2 hn; refine ⟨ad, e, fun j hj => ?_⟩; have hl : j < xs.length := by have := h.1; omega
 obtain ⟨c, _, hK, hcell⟩ := hc j _ (List.getElem?_eq_getElem hl); have hK' : c = [enc xs[j]] := hK; subst hK'; have := hcell 0 _ rfl
 simpa [scalar, List.getD_eq_getElem?_getD, List.getElem?_eq_getElem hl] using this
end Kd
namespace Kd
section
variable {α : Type} {F : Kd α → Kd α} {sz : Nat} {E : List Nat} {hs : ∀ n, (upto F sz E n).sz = sz} {hE : ∀ n q, q ∈ (upto F sz E n).E → q ∈ E}
end
end Kd
namespace Kd
theorem ee {α : Type} {d : Kd α} {e base : Nat} {ok : Nat → Prop} {W w1 : World} {u v v1 : Value} {xs : List α} (h : d.R e W base (fun k => ok k ∧ some k ≠ v.ownBlock) u xs) (hg : W.grownBy w1 v.ownBlock) (hat : v1.ownBlock = v.ownBlock ∨ ∃ b, v1.ownBlock = some b ∧ W.heap.size ≤ b) : d.R e w1 base (fun k => ok k ∧ some k ≠ v1.ownBlock) u xs := by
 refine au (o4 (kG h) (fun k hk => hg.block k hk.2.2.1 hk.1.2)) (fun k hk => ⟨hk.1.1, ?_⟩)
 rcases hat with hat | ⟨b, hb, hle⟩
 · rw [hat]; exact hk.1.2
 ·
  rw [hb]; intro he
  injection he with he
  have := hk.2.2.1
  omega
end Kd
namespace Kd
section
variable {α β : Type} {d : Kd α} {d' : Kd β} {e e' : Nat} {w w1 W : World} {base b b' : Nat} {ok ok' okv oku : Nat → Prop} {v u : Value} {xs : List α} {ys : List β}
theorem ay (h : d.R e w base ok v xs) (o : Obj) : d.R e (w.alloc o) base ok v xs := gG h (aH (Below.refl _ _) o)
theorem ax (h : d.R e w base ok v xs) : d.R e w.drew base ok v xs := gG h (oG (Below.refl _ _))
theorem aC (h : d.R e w base ok v xs) (m : Nat) : d.R e (w.drewN m) base ok v xs := gG h (aG (Below.refl _ _) m)
theorem bO {A : Option Addr} {n : Nat} (h : d.C w A n xs) (o : Obj) : d.C (w.alloc o) A n xs := fc h (aH (Below.refl _ _) o)
theorem bZ {A : Option Addr} {n : Nat} (h : d.C w A n xs) : d.C w.drew A n xs := fc h (oG (Below.refl _ _))
theorem bQ {A : Option Addr} {n : Nat} (h : d.C w A n xs) (m : Nat) : d.C (w.drewN m) A n xs := fc h (aG (Below.refl _ _) m)
theorem ND (d : Kd α) (w : World) : d.C w none ([] : List α).length [] := ⟨rfl, by simp, fun h => absurd h (Nat.lt_irrefl 0)⟩
theorem av {A : Option Addr} {n c : Nat} (h : d.R e w base ok (.slice A n c) xs) : n = xs.length ∧ n ≤ c ∧ d.C w A xs.length xs := by
 obtain ⟨A', c', he, hl, hr⟩ := xy h
 injection he with h1 h2 h3
 subst h1; exact ⟨h2, by omega, hr⟩
theorem cA (h : d.R e w base ok v xs) : ∀ k, v.ownBlock = some k → k < w.heap.size := by
 obtain ⟨inner, ho⟩ := vO h; exact Fu ho
theorem cK (h : d.R e w base ok v xs) : ∀ k, v.ownBlock = some k → base ≤ k := by
 obtain ⟨inner, ho⟩ := vO h; exact ny ho
theorem nY (h : d.R e w base ok v xs) {g : Nat} (hok : ∀ k, ok k → k ≠ g) : some g ≠ v.ownBlock := fun e => hok g (h.1 g e.symm) rfl
theorem vQ (h : d.R e w base ok v xs) (hp : 0 < xs.length) : ∃ g cap, v = .slice (some ⟨g, 0, none⟩) xs.length cap ∧ base ≤ g ∧ g < w.heap.size ∧ ∃ cells, w.heap[g]? = some (.cells cells e (0, 0)) := by
 obtain ⟨inner, ho⟩ := vO h; obtain ⟨g, cap, he, hb, hl⟩ := ho.form hp; obtain ⟨cells, hc⟩ := nX ho g (by rw [he]; simp [Value.ownBlock]); exact ⟨g, cap, he, hb, hl, cells, hc⟩
theorem Ls (h : d.R e W b ok u xs) (hv : d'.R e' W b' ok' v ys) (ht : ∀ q, q ∈ e :: d.E → q ≠ e') (hg : W.grownBy w1 v.ownBlock) : d.R e w1 b ok u xs := by
 obtain ⟨inner, ho⟩ := vO hv; refine au (o4 (kG h) (fun k hk => hg.block k hk.2.2.1 (fun he => ?_))) (fun _ hk => hk.1); obtain ⟨_, _, _, q, hq, cells, hc⟩ := hk; obtain ⟨cells', hc'⟩ := nX ho k he.symm; rw [hc] at hc'
 injection hc' with hc'
 injection hc' with _ hc'
 exact ht q hq hc'
end
section
variable {w W : World} {A : Option Addr} {n : Nat}
theorem jE {k : IntKind} {xs : List Int} (h : (Kd.int k).C w A n xs) (i : Int) (h0 : 0 ≤ i) (h1 : i < n) : ∃ ad, A = some ad ∧ w.cell? (ad.add i.toNat) = some (.int k (rd xs i)) :=
  iy.at_ (rV (enc := Value.int k) (d := (0 : Int)) (h1 := fun _ => rfl) h) i h0 h1
theorem nA {xs : List Bool} (h : Kd.bool.C w A n xs) (i : Int) (h0 : 0 ≤ i) (h1 : i < n) : ∃ ad, A = some ad ∧ w.cell? (ad.add i.toNat) = some (.bool (fW false xs i)) :=
  iy.at_ (rV (enc := Value.bool) (d := false) (h1 := fun _ => rfl) h) i h0 h1
theorem nZ {xs : List ByteArray} (h : Kd.string.C w A n xs) (i : Int) (h0 : 0 ≤ i) (h1 : i < n) : ∃ ad, A = some ad ∧ w.cell? (ad.add i.toNat) = some (.string (fW ByteArray.empty xs i)) :=
  iy.at_ (rV (enc := Value.string) (d := ByteArray.empty) (h1 := fun _ => rfl) h) i h0 h1
variable {α : Type} {enc : α → Value} {h1 : ∀ x, (enc x).oneCell' = true} {e base g cap : Nat} {ok : Nat → Prop} {xs : List α}
theorem Lt (d : α) (h : (scalar enc h1).R e W base ok (.slice (some ⟨g, 0, none⟩) xs.length cap) xs) (i : Int) (h0 : 0 ≤ i) (hi : i < xs.length) : W.cell? ⟨g, i.toNat, none⟩ = some (enc (fW d xs i)) ∧ W.frozen? ⟨g, i.toNat, none⟩ = false := Fw (uX h) i h0 hi
theorem Jf (h : (scalar enc h1).R e W base ok (.slice (some ⟨g, 0, none⟩) xs.length cap) xs) (i : Int) (x : α) : (scalar enc h1).R e (W.setCell ⟨g, i.toNat, none⟩ (enc x)) base ok (.slice (some ⟨g, 0, none⟩) xs.length cap) (xs.set i.toNat x) ∧ W.grownBy (W.setCell ⟨g, i.toNat, none⟩ (enc x)) (some g) := by
 obtain ⟨ho, hg⟩ := Az (uX h) i x; exact ⟨rU (by rw [List.length_set]; exact ho) h.1, hg⟩
end
section
variable {P : Program} {ops : Array Oper} {rest : List Oper} {o : Oper} {a : Act} {Q : Exit → Act → World → Prop}
theorem j6 {W w1 : World} {v : Value} (hgd : o.guard = none) (hrun : (execOp a.eval o).run P W = .ok (.value v) w1) (h : wpList P ops Q rest (a.put o.dst v) w1) : wpList P ops Q (o :: rest) a W := by
 refine wpList_plain hgd fun K hK => ?_
 unfold Oper.wp; rw [hrun]; exact hK _ _ h
variable {α : Type}
theorem rW (d : Kd α) {w0 W : World} (base e : Nat) (hgd : o.guard = none) {N : Tmp} (_hd : o.dst = some N) {xs : List α} {inner : List Value} {ok okp : Nat → Prop}
    (hrun : (execOp a.eval o).run P W = .ok (.value (.slice (some ⟨W.heap.size, 0, none⟩) xs.length xs.length)) (W.alloc (.cells inner.toArray e)))
    (hrep : bK (d.M W base okp) d.sz xs inner) (hok : ∀ k, okp k → ok k) (hfresh : ok W.heap.size) (HB : Below base w0 W) (hbase : base ≤ W.heap.size) (hm : xs.length ≤ 9223372036854775807)
    (h : ∀ v1 w1, d.R e w1 base ok v1 xs → Below base w0 w1 → W.grownBy w1 none → (∃ b, v1.ownBlock = some b ∧ W.heap.size ≤ b) → wpList P ops Q rest (a.put o.dst v1) w1) : wpList P ops Q (o :: rest) a W := by
 refine j6 hgd hrun (h _ _ ⟨fun k hk => ?_, inner, ?_, ?_⟩ (HB.alloc hbase _) (World.grownBy_alloc W _ none) ⟨W.heap.size, by simp [Value.ownBlock], Nat.le_refl _⟩)
 ·
  have : W.heap.size = k := by simpa [Value.ownBlock] using hk
  subst this; exact hfresh
 ·
  have h2 := World.ownsRow_lit (base := base) (e := e) (size := d.sz) W inner.toArray xs.length hbase (by simpa [maxLen] using hm) (by simpa using hrep.1)
  simpa using h2
 ·
  refine hrep.kK (fun p c hp => d.M_mono (fun k hk => ⟨hok k hk.1, fun he => ?_⟩) (CP (d.M_bound hp) (aH (Below.refl _ _) _))); have h3 : k = W.heap.size := by simpa [Value.ownBlock] using he
  have := hk.2.2.1
  omega
theorem Fz {α : Type} {R : α → List Value → Prop} {z : Value} {size : Nat} {z0 : α} (hz : z.cells.size = size) (hs : 0 < size) (h0 : R z0 z.cells.toList) (m : Nat) : bK R size (List.replicate m z0) (madeCells z.cells (m * size)).toList := by
 refine ⟨by simp [size_madeCells], fun j p hj => ?_⟩; obtain ⟨hjl, hp⟩ := List.getElem?_eq_some_iff.1 hj; have hjm : j < m := by simpa using hjl
 have hp' : z0 = p := by simpa using hp
 subst hp'; have hle : j * size + size ≤ m * size := by rw [← Nat.succ_mul]; exact Nat.mul_le_mul_right _ hjm
 have : ((madeCells z.cells (m * size)).toList.drop (j * size)).take size = z.cells.toList := by
  apply List.ext_getElem
  ·
   simp [size_madeCells, hz]
   omega
  ·
   intro i h1 h2; have hi : i < size := by rw [Array.length_toList, hz] at h2; exact h2
   have hmod : (j * size + i) % size = i := by
    rw [Nat.mul_comm, Nat.mul_add_mod]; exact Nat.mod_eq_of_lt hi
   simp [madeCells, hz, hmod]
   rw [getElem!_pos z.cells i (by omega)]
 rw [this]; exact h0
theorem FA (d : Kd α) {w0 W : World} (base e : Nat) (hgd : o.guard = none) {N : Tmp} (hd : o.dst = some N) (t : TypeId) (x y : Operand) (ho : o.op = .makeSlice t x y) (n : Int) (hx : a.eval x = .int .i64 n) (hy : a.eval y = .int .i64 n)
    (ht : P.underlying t = some (.slice e)) (z : Value) (bytes : Nat) (hinfo : (P.info? e).map (fun i => (i.zero, i.size, i.bytes)) = some (some z, d.sz, bytes)) (hz : z.cells.size = d.sz) (hs0 : 0 < d.sz) (hb0 : 0 < bytes)
    (z0 : α) {ok okp : Nat → Prop} (hzero : d.M W base okp z0 z.cells.toList) (hok : ∀ k, okp k → ok k) (hfresh : ok W.heap.size) (h0 : 0 ≤ n) (hl : n.toNat * bytes ≤ 281474976710656) (HB : Below base w0 W) (hbase : base ≤ W.heap.size)
    (h : ∀ v1 w1, d.R e w1 base ok v1 (List.replicate n.toNat z0) → Below base w0 w1 → W.grownBy w1 none → (∃ b, v1.ownBlock = some b ∧ W.heap.size ≤ b) → wpList P ops Q rest (a.put o.dst v1) w1) : wpList P ops Q (o :: rest) a W := by
  obtain ⟨m, rfl⟩ := Int.eq_ofNat_of_zero_le h0
  simp only [Int.toNat_natCast] at hl h
  obtain ⟨i0, hi, hzz⟩ := Option.map_eq_some_iff.1 hinfo
  simp only [Prod.mk.injEq] at hzz
  obtain ⟨hz0, hz1, hz2⟩ := hzz
  have hm : m ≤ 281474976710656 := Nat.le_trans (Nat.le_mul_of_pos_right _ hb0) hl
  have hr := run_make (P := P) W t e i0 z ht hi hz0 .i64 .i64 (m : Int) (m : Int) (by omega) (by omega)
    (by
      have h3 : ((i0.bytes * m : Nat) : Int) ≤ 281474976710656 := by rw [hz2, Nat.mul_comm]; omega
      rwa [Int.natCast_mul] at h3) (by omega)
  simp only [Int.toNat_natCast] at hr
  rw [hz1] at hr
  refine rW d base e hgd hd (xs := List.replicate m z0) (inner := (madeCells z.cells (m * d.sz)).toList) (okp := okp) (ok := ok) ?_ (Fz hz hs0 hzero m) hok hfresh HB hbase (by simp; omega) h
  simp [execOp, ho, hx, hy, hr]
end
end Kd
section
variable {P : Program}
theorem Lu (t e : TypeId) (kh : IntKind) {i : TypeInfo} (ht : P.underlying t = some (.slice e)) (hi : P.info? e = some i) (A : Option Addr) (n c : Nat) (j : Int) (h0 : 0 ≤ j) (hm : j ≤ n) (hc : n ≤ c) :
    ∀ W : World, (Instr.slice t (.slice A n c) none (some (.int kh j)) none).run P W = .ok (.slice A j.toNat c) W := by
 intro W; have hel : P.elem t = e := by simp [Program.elem, ht]
 have hu : P.underlying t = some (.slice (P.elem t)) := by rw [hel]; exact ht
 have ha : (A.map fun x => x.add 0) = A := by cases A <;> simp [Addr.add]
 rw [run_slice_h W t A n c hu kh j h0 (by omega), hel]
 simp [sizeOf, typeInfo, hi, sliced, Result.andThen, ha]
theorem uY (t e : TypeId) (kl : IntKind) {i : TypeInfo} (ht : P.underlying t = some (.slice e)) (hi : P.info? e = some i) (size : Nat) (hsz : i.size = size) (A : Option Addr) (n c : Nat) (j : Int) (h0 : 0 ≤ j) (hm : j ≤ n) :
    ∀ W : World, (Instr.slice t (.slice A n c) (some (.int kl j)) none none).run P W = .ok (.slice (if c = j.toNat then A else A.map (·.add (j.toNat * size))) (n - j.toNat) (c - j.toNat)) W := by
 intro W; have hel : P.elem t = e := by simp [Program.elem, ht]
 have hu : P.underlying t = some (.slice (P.elem t)) := by rw [hel]; exact ht
 rw [run_slice_l W t A n c hu kl j h0 hm, hel]
 simp [sizeOf, typeInfo, hi, hsz, sliced, Result.andThen]
end
def Lv (w : World) (base : Nat) (e : TypeId) (size : Nat) (v : Value) (n : Nat) (xs : List Value) : Prop :=
  xs.length = n * size ∧
  ((n = 0 ∧ ∃ A, v = .slice A 0 0 ∧ ∀ a, A = some a → base ≤ a.block ∧ ∃ cur, w.heap[a.block]? = some (.cells cur e (0, 0))) ∨
   ∃ g off cap cur, v = .slice (some ⟨g, off * size, none⟩) n cap ∧ base ≤ g ∧ w.heap[g]? = some (.cells cur e (0, 0)) ∧ n ≤ cap ∧ off + cap ≤ maxLen ∧ cur.size = (off + cap) * size ∧ (cur.toList.drop (off * size)).take (n * size) = xs)
section
variable {w w1 : World} {base n size : Nat} {e : TypeId} {v : Value} {xs : List Value}
theorem GI (h : w.ownsRow base e size v n xs) : Lv w base e size v n xs := by
 obtain ⟨h1, h2⟩ := h; refine ⟨h1, ?_⟩
 rcases h2 with ⟨rfl, h0⟩ | ⟨g, cap, cur, rfl, hb, hh, hnc, hcm, hcs, ht⟩
 · exact .inl ⟨h0, none, rfl, fun a ha => by cases ha⟩
 · exact .inr ⟨g, 0, cap, cur, by rw [Nat.zero_mul], hb, hh, hnc, by rw [Nat.zero_add]; exact hcm, by rw [Nat.zero_add]; exact hcs, by rw [Nat.zero_mul, List.drop_zero]; exact ht⟩
theorem FC (g o j : Nat) : (⟨g, o, none⟩ : Addr).add j = ⟨g, o + j, none⟩ := by unfold Addr.add; split <;> simp_all
theorem sZ {g : Nat} : ∀ (vs : List Value) (o : Nat) {w : World} (k : Nat), k ≠ g → (w.setCells g o vs).heap[k]? = w.heap[k]?
  | [], _, _, _, _ => rfl
  | v :: r, o, w, k, hk => by
    rw [World.setCells, sZ r (o + 1) k hk]
    exact Below.heap_setCell w ⟨g, o, none⟩ v k hk
theorem sU (g : Nat) : ∀ (vs : List Value) (o : Nat) (w : World), (w.setCells g o vs).os = w.os ∧ (w.setCells g o vs).tape = w.tape ∧ (w.setCells g o vs).output = w.output ∧ (w.setCells g o vs).heap.size = w.heap.size
  | [], _, _ => ⟨rfl, rfl, rfl, rfl⟩
  | v :: r, o, w => by
    obtain ⟨h1, h2, h3, h4⟩ := sU g r (o + 1) (w.setCell ⟨g, o, none⟩ v)
    rw [World.setCells]
    exact ⟨h1, h2, h3, by rw [h4]; simp [World.setCell]⟩
theorem tj {g : Nat} {e : TypeId} : ∀ (vs : List Value) (o : Nat) (w : World) (cur : Array Value), w.heap[g]? = some (.cells cur e (0, 0)) → o + vs.length ≤ cur.size →
    ∃ cur', (w.setCells g o vs).heap[g]? = some (.cells cur' e (0, 0)) ∧ cur'.size = cur.size ∧ cur'.toList = cur.toList.take o ++ vs ++ cur.toList.drop (o + vs.length)
  | [], o, w, cur, h, _ => ⟨cur, h, rfl, by simp⟩
  | v :: r, o, w, cur, h, hl => by
    have h2 := jt h o v
    simp only [List.length_cons] at hl
    obtain ⟨cur', h3, h4, h5⟩ := tj r (o + 1) (w.setCell ⟨g, o, none⟩ v) _ h2 (by simp; omega)
    refine ⟨cur', h3, by rw [h4]; simp, ?_⟩
    rw [h5, Array.toList_setIfInBounds]
    have ho : o < cur.toList.length := by rw [Array.length_toList]; omega
    rw [List.take_set, List.drop_set_of_lt (by omega)]
    simp only [List.length_cons]
    rw [show o + 1 + r.length = o + (r.length + 1) by omega]
    congr 1
    rw [List.take_succ_eq_append_getElem ho, List.set_append_right _ _ (by rw [List.length_take]; omega)]
    have ho' : o < cur.size := by omega
    simp [Nat.min_eq_left (Nat.le_of_lt ho')]
end
section
variable {P : Program}
end
namespace Kd
def Q {α : Type} (d : Kd α) (e : Nat) (w : World) (base : Nat) (ok : Nat → Prop) (v : Value) (xs : List α) : Prop :=
  (∀ k, v.ownBlock = some k → ok k) ∧ ∃ inner, Lv w base e d.sz v xs.length inner ∧ bK (d.M w base (fun k => ok k ∧ some k ≠ v.ownBlock)) d.sz xs inner
section
variable {α : Type} {d : Kd α} {e : Nat} {w w1 W : World} {base : Nat} {ok ok' : Nat → Prop} {v : Value} {xs : List α}
theorem Lw (h : d.R e w base ok v xs) : d.Q e w base ok v xs := by
 obtain ⟨h0, inner, ho, hr⟩ := h; exact ⟨h0, inner, GI ho, hr⟩
theorem NF (d : Kd α) (e : Nat) (w : World) (base : Nat) (ok : Nat → Prop) : d.Q e w base ok (.slice none 0 0) [] := Lw (iE d e w base ok)
end
section
variable {P : Program} {ops : Array Oper} {rest : List Oper} {o : Oper} {a : Act} {Q' : Exit → Act → World → Prop} {Kc : Act → World → Prop} {α : Type}
end
end Kd
namespace Kd
section
variable {α : Type} {d : Kd α} {e e' : Nat} {w w1 W : World} {base : Nat} {ok : Nat → Prop} {u v : Value} {xs : List α}
theorem bC (h : d.R e w base ok v xs) : ∀ k, v.ownBlock = some k → ∃ cells, w.heap[k]? = some (.cells cells e (0, 0)) := by
 obtain ⟨inner, ho⟩ := vO h; exact fun k hk => nX ho k hk
theorem bF (h : d.R e W base ok u xs) (hty : ∀ k, v.ownBlock = some k → ∃ cells, W.heap[k]? = some (.cells cells e' (0, 0))) (ht : ∀ q, q ∈ e :: d.E → q ≠ e') (hg : W.grownBy w1 v.ownBlock) : d.R e w1 base ok u xs := by
 refine au (o4 (kG h) (fun k hk => hg.block k hk.2.2.1 (fun he => ?_))) (fun _ hk => hk.1); obtain ⟨_, _, _, q, hq, cells, hc⟩ := hk; obtain ⟨cells', hc'⟩ := hty k he.symm; rw [hc] at hc'
 injection hc' with hc'
 injection hc' with _ hc'
 exact ht q hq hc'
theorem bT (hu : d.R e W base ok u xs) (hbase : ∀ k, v.ownBlock = some k → W.heap.size ≤ k) (hb : Below W.heap.size W w1) : d.R e w1 base (fun k => ok k ∧ some k ≠ v.ownBlock) u xs :=
  au (o4 (kG hu) (fun k hk => hb.block k hk.2.2.1)) (fun k hk => ⟨hk.1, fun he => by have := hbase k he.symm; have := hk.2.2.1; omega⟩)
theorem cL (h : d.R e w1 W.heap.size ok v xs) (hlt : ∀ k, u.ownBlock = some k → k < W.heap.size) : d.R e w1 W.heap.size (fun k => ok k ∧ some k ≠ u.ownBlock) v xs :=
  au (kG h) (fun k hk => ⟨hk.1, fun he => by have := hlt k he.symm; have := hk.2.1; omega⟩)
theorem fresh' (hlt : ∀ k, u.ownBlock = some k → k < W.heap.size) : ∀ k, W.heap.size ≤ k → some k ≠ u.ownBlock := fun k hk he => by have := hlt k he.symm; omega
end
end Kd
theorem qh {α : Type} (a seg : List α) (o : Nat) (h : o + seg.length ≤ a.length) (q : Nat) :
    (a.take o ++ seg ++ a.drop (o + seg.length))[q]? = if q < o then a[q]? else if q < o + seg.length then seg[q - o]? else a[q]? := by
 have hl : (a.take o).length = o := by rw [List.length_take]; omega
 rw [List.append_assoc]
 by_cases h1 : q < o
 · rw [if_pos h1, List.getElem?_append_left (by omega), List.getElem?_take, if_pos h1]
 ·
  rw [if_neg h1, List.getElem?_append_right (by omega), hl]
  by_cases h2 : q < o + seg.length
  · rw [if_pos h2, List.getElem?_append_left (by omega)]
  ·
   rw [if_neg h2, List.getElem?_append_right (by omega), List.getElem?_drop]
   congr 1
   omega
namespace Kd
section
variable {α : Type} {d : Kd α} {e base g n cap : Nat} {ok okp : Nat → Prop} {W : World} {xs : List α}
theorem FD (h : d.R e W base ok (.slice (some ⟨g, 0, none⟩) n cap) xs) (z : α) (i : Int) (h0 : 0 ≤ i) (h1 : i < n) :
    ∃ c, c.length = d.sz ∧ d.M W base (fun k => ok k ∧ k ≠ g) (xs.getD i.toNat z) c ∧ (∀ j u, c[j]? = some u → W.cell? ⟨g, i.toNat * d.sz + j, none⟩ = some u) ∧ ∀ j, W.frozen? ⟨g, i.toNat * d.sz + j, none⟩ = false := by
 obtain ⟨hn, hnc, hC⟩ := av h; obtain ⟨_, inner, ho, hr⟩ := h; have hil : i.toNat < xs.length := by omega
 have hseg : i.toNat * d.sz + d.sz ≤ inner.length := by rw [hr.1, ← Nat.succ_mul]; exact Nat.mul_le_mul_right _ hil
 have hM := hr.2 i.toNat _ (List.getElem?_eq_getElem hil); refine ⟨(inner.drop (i.toNat * d.sz)).take d.sz, by rw [List.length_take, List.length_drop]; omega, ?_, fun j u hu => ?_, fun j => ?_⟩
 ·
  rw [List.getD_eq_getElem?_getD, List.getElem?_eq_getElem hil]; exact d.M_mono (fun k hk => ⟨hk.1, fun he => hk.2 (by rw [he]; simp [Value.ownBlock])⟩) hM
 ·
  rw [List.getElem?_take] at hu
  split at hu
  ·
   rw [List.getElem?_drop] at hu; have := ho.cells (g := g) (by simp [Value.ownBlock]) _ u hu
   rwa [add_plain] at this
  · cases hu
 ·
  obtain ⟨cells, hc⟩ := nX ho g (by simp [Value.ownBlock]); exact aj hc _
theorem NG (h : d.R e W base ok (.slice (some ⟨g, 0, none⟩) n cap) xs) (i : Int) (h0 : 0 ≤ i) (h1 : i < n) {c seg : List Value} {j : Nat} (hcl : c.length = d.sz) (hcc : ∀ j u, c[j]? = some u → W.cell? ⟨g, i.toNat * d.sz + j, none⟩ = some u)
    (hj : j + seg.length ≤ d.sz) {x' : α} (hM : d.M W base okp x' (c.take j ++ seg ++ c.drop (j + seg.length))) (hokp : ∀ k, okp k → ok k ∧ k ≠ g) :
    d.R e (W.setCells g (i.toNat * d.sz + j) seg) base ok (.slice (some ⟨g, 0, none⟩) n cap) (xs.set i.toNat x') ∧ W.grownBy (W.setCells g (i.toNat * d.sz + j) seg) (some g) := by
  obtain ⟨hn, hnc, _⟩ := av h
  obtain ⟨hok, inner, ho, hr⟩ := h
  have hil : i.toNat < xs.length := by omega
  have hseg : i.toNat * d.sz + d.sz ≤ inner.length := by rw [hr.1, ← Nat.succ_mul]; exact Nat.mul_le_mul_right _ hil
  have hin : inner.length = n * d.sz := by rw [hr.1, hn]
  obtain ⟨ho1, ho2⟩ := ho
  rcases ho2 with ⟨hv, _⟩ | ⟨g', cap', cur, hv, hb, hh, hnc', hcm, hcs, ht⟩
  · cases hv
  injection hv with ha _ hc
  injection ha with ha
  injection ha with hg
  subst hg; subst hc
  have hfit : i.toNat * d.sz + j + seg.length ≤ cur.size := by
    have : n * d.sz ≤ cap * d.sz := Nat.mul_le_mul_right _ hnc
    omega
  obtain ⟨cur', h3, h4, h5⟩ := tj seg (i.toNat * d.sz + j) W cur hh hfit
  obtain ⟨s1, s2, s3, s4⟩ := sU g seg (i.toNat * d.sz + j) W
  have hfar : ∀ k, k ≠ g → (W.setCells g (i.toNat * d.sz + j) seg).heap[k]? = W.heap[k]? := fun k hk => sZ seg _ k hk
  have hcin : ∀ q, q < d.sz → c[q]? = inner[i.toNat * d.sz + q]? := by
    intro q hq
    have hq' : q < c.length := by omega
    have h6 := hcc q _ (List.getElem?_eq_getElem hq')
    rw [cell_of_row W g _ cur e (0, 0) hh] at h6
    rw [List.getElem?_eq_getElem hq', ← h6, ← ht, List.getElem?_take, if_pos (by rw [← hn]; omega), Array.getElem?_toList]
  refine ⟨⟨hok, inner.take (i.toNat * d.sz + j) ++ seg ++ inner.drop (i.toNat * d.sz + j + seg.length), ⟨?_, .inr ⟨g, cap, cur', by rw [List.length_set, hn], hb, h3, by rw [List.length_set, ← hn]; exact hnc, hcm, by rw [h4, hcs], ?_⟩⟩, ?_⟩,
    ⟨s1, s2, s3, by rw [s4]; exact Nat.le_refl _, fun k _ hk => hfar k (fun he => hk (by rw [he]))⟩⟩
  · rw [List.length_set]
    simp only [List.length_append, List.length_take, List.length_drop]
    rw [hr.1] at hseg ⊢
    omega
  · rw [List.length_set, ← hn]
    apply List.ext_getElem?
    intro q
    rw [List.getElem?_take, h5]
    rw [qh cur.toList seg (i.toNat * d.sz + j) (by rw [Array.length_toList]; omega) q, qh inner seg (i.toNat * d.sz + j) (by omega) q]
    have hcur : ∀ q, q < n * d.sz → cur.toList[q]? = inner[q]? := by
      intro q hq
      rw [← ht, List.getElem?_take, if_pos (by rw [← hn]; exact hq)]
    by_cases hq : q < n * d.sz
    · rw [if_pos hq, hcur q hq]
    · rw [if_neg hq, if_neg (by omega), if_neg (by omega), List.getElem?_eq_none (by omega)]
  · refine ⟨?_, fun m p hm => ?_⟩
    · rw [List.length_set]
      simp only [List.length_append, List.length_take, List.length_drop]
      rw [hr.1] at hseg ⊢
      omega
    · have hml : m < xs.length := by
        have := (List.getElem?_eq_some_iff.1 hm).1
        rwa [List.length_set] at this
      have hmfit : m * d.sz + d.sz ≤ inner.length := by rw [hr.1, ← Nat.succ_mul]; exact Nat.mul_le_mul_right _ hml
      have hgo : some g = (Value.slice (some ⟨g, 0, none⟩) n cap).ownBlock := by simp [Value.ownBlock]
      by_cases hmi : m = i.toNat
      · subst hmi
        rw [List.getElem?_set_self (by omega)] at hm
        injection hm with hm
        subst hm
        have hcells : ((inner.take (i.toNat * d.sz + j) ++ seg ++ inner.drop (i.toNat * d.sz + j + seg.length)).drop (i.toNat * d.sz)).take d.sz = c.take j ++ seg ++ c.drop (j + seg.length) := by
          apply List.ext_getElem?
          intro q
          rw [List.getElem?_take, List.getElem?_drop, qh inner seg _ (by omega), qh c seg j (by omega) q]
          by_cases hq : q < d.sz
          · rw [if_pos hq, hcin q hq]
            by_cases hq1 : q < j
            · rw [if_pos (by omega), if_pos hq1]
            · rw [if_neg (by omega), if_neg hq1]
              by_cases hq2 : q < j + seg.length
              · rw [if_pos (by omega), if_pos hq2]
                congr 1
                omega
              · rw [if_neg (by omega), if_neg hq2]
          · rw [if_neg hq, if_neg (by omega), if_neg (by omega), List.getElem?_eq_none (by omega)]
        rw [hcells]
        refine d.M_mono (fun k hk => ?_) (d.M_move (w1 := W.setCells g (i.toNat * d.sz + j) seg) (fun k hk => hfar k (hokp k hk).2) hM)
        exact ⟨(hokp k hk).1, fun he => (hokp k hk).2 (by rw [← hgo] at he; injection he)⟩
      · rw [List.getElem?_set_ne (by omega)] at hm
        have hold := hr.2 m p hm
        have hcells : ((inner.take (i.toNat * d.sz + j) ++ seg ++ inner.drop (i.toNat * d.sz + j + seg.length)).drop (m * d.sz)).take d.sz = (inner.drop (m * d.sz)).take d.sz := by
          apply List.ext_getElem?
          intro q
          rw [List.getElem?_take, List.getElem?_take, List.getElem?_drop, List.getElem?_drop, qh inner seg _ (by omega)]
          by_cases hq : q < d.sz
          · rw [if_pos hq, if_pos hq]
            rcases Nat.lt_or_gt_of_ne hmi with hlt | hgt
            · have : m * d.sz + d.sz ≤ i.toNat * d.sz := by rw [← Nat.succ_mul]; exact Nat.mul_le_mul_right _ hlt
              rw [if_pos (by omega)]
            · have : i.toNat * d.sz + d.sz ≤ m * d.sz := by rw [← Nat.succ_mul]; exact Nat.mul_le_mul_right _ hgt
              rw [if_neg (by omega), if_neg (by omega)]
          · rw [if_neg hq, if_neg hq]
        rw [hcells]
        refine d.M_move (fun k hk => hfar k (fun he => hk.2 (by rw [he]; exact hgo))) hold
end
end Kd
namespace Kd
section
variable {α : Type} {F : Kd α → Kd α} {sz : Nat} {E : List Nat} {hs : ∀ n, (upto F sz E n).sz = sz} {hE : ∀ n q, q ∈ (upto F sz E n).E → q ∈ E}
end
end Kd
namespace Kd
theorem uK {α : Type} {R : α → List Value → Prop} {size : Nat} {ps qs : List α} {cs ds : List Value} (h : bK R size ps cs) (h' : bK R size qs ds) : bK R size (ps ++ qs) (cs ++ ds) := by
 refine ⟨by rw [List.length_append, List.length_append, h.1, h'.1, Nat.add_mul], fun j p hj => ?_⟩
 rcases Nat.lt_or_ge j ps.length with hlt | hge
 ·
  rw [List.getElem?_append_left hlt] at hj; have hle : j * size + size ≤ cs.length := by rw [h.1, ← Nat.succ_mul]; exact Nat.mul_le_mul_right _ hlt
  rw [List.drop_append_of_le_length (by omega), List.take_append_of_le_length (by rw [List.length_drop]; omega)]; exact h.2 j p hj
 ·
  rw [List.getElem?_append_right hge] at hj; have h2 := h'.2 (j - ps.length) p hj; have hle : ps.length * size ≤ j * size := Nat.mul_le_mul_right _ hge; rw [List.drop_append, List.drop_eq_nil_of_le (by rw [h.1]; exact hle), List.nil_append, h.1, ← Nat.sub_mul]; exact h2
section
variable {P : Program} {ops : Array Oper} {rest : List Oper} {o : Oper} {a : Act} {Q : Exit → Act → World → Prop} {α : Type}
theorem sV (d : Kd α) {Rr : α → List Value → Prop} {w0 W : World} (base : Nat) (hgd : o.guard = none) (s x : Operand) (t e : TypeId) (z : Value) (bytes : Nat)
    (ho : o.op = .call { callee := .builtin .append, args := #[s, x], argTypes := #[t, t] })
    (ht : P.underlying t = some (.slice e)) (hinfo : (P.info? e).map (fun i => (i.zero, i.size, i.bytes)) = some (some z, d.sz, bytes)) (hz : z.cells.size = d.sz) (hs0 : 0 < d.sz) (hb0 : 0 < bytes)
    (v : Value) (xs ys : List α) (A : Option Addr) (m c : Nat) (ok okp : Nat → Prop) (hs : a.eval s = v) (hx : a.eval x = .slice A m c)
    (HO : d.R e W base ok v xs) (HR : gT Rr d.sz W A m ys) (hKM : ∀ x cs, Rr x cs → d.M W base okp x cs) (hokp : ∀ k, okp k → ok k ∧ some k ≠ v.ownBlock) (hfresh : ∀ k, W.heap.size ≤ k → ok k)
    (HB : Below base w0 W) (hbase : base ≤ W.heap.size) (hl : (xs.length + m) * bytes ≤ 140737488355328)
    (h : ∀ v1 w1, d.R e w1 base ok v1 (xs ++ ys) → Below base w0 w1 → W.grownBy w1 v.ownBlock → (v1.ownBlock = v.ownBlock ∨ ∃ b, v1.ownBlock = some b ∧ W.heap.size ≤ b) → wpList P ops Q rest (a.put o.dst v1) w1) :
    wpList P ops Q (o :: rest) a W := by
  obtain ⟨i0, hi, hzz⟩ := Option.map_eq_some_iff.1 hinfo
  simp only [Prod.mk.injEq] at hzz
  obtain ⟨hz0, hz1, hz2⟩ := hzz
  have hm : ys.length = m := HR.1
  have hlen : xs.length + m ≤ 140737488355328 := Nat.le_trans (Nat.le_mul_of_pos_right _ hb0) hl
  obtain ⟨hok, inner, hown, hr⟩ := HO
  have hrun : ∃ v1 w1, (Builtin.append_ #[t, t] o.type #[v, .slice A m c]).run P W = .ok v1 w1 ∧ d.R e w1 base ok v1 (xs ++ ys) ∧ W.grownBy w1 v.ownBlock ∧ (v1.ownBlock = v.ownBlock ∨ ∃ b, v1.ownBlock = some b ∧ W.heap.size ≤ b) := by
    rcases A with _ | ad
    · have h0 : m = 0 := by
        rcases Nat.eq_zero_or_pos m with h0 | h0
        · exact h0
        · obtain ⟨ad, h, _⟩ := HR.2.2 h0
          cases h
      subst h0
      obtain rfl : ys = [] := List.eq_nil_of_length_eq_zero hm
      refine ⟨v, W, ?_, by rw [List.append_nil]; exact ⟨hok, inner, hown, hr⟩, World.grownBy.refl W _, .inl rfl⟩
      rcases hown.2 with ⟨rfl, hn⟩ | ⟨g, cap, cur, rfl, _, _, hnc, _⟩
      · simp [Builtin.append_, run_underlying ht, sizeOf, typeInfo, hi, Builtin.lenOf, Builtin.firstCells]
      · simp [Builtin.append_, run_underlying ht, sizeOf, typeInfo, hi, Builtin.lenOf, Builtin.firstCells, hnc, storeCells]
    · obtain ⟨news, hnr, hnc⟩ := gT.Fx HR
      have hnM : bK (d.M W base okp) d.sz ys news := hnr.kK (fun p c hp => hKM p c hp)
      have hone : ∀ u ∈ news, u.oneCell' = true := by
        intro u hu
        obtain ⟨q, hq, rfl⟩ := List.mem_iff_getElem.1 hu
        have hql : q / d.sz < ys.length := by
          rw [Nat.div_lt_iff_lt_mul hs0]
          rw [← hnM.1]
          exact hq
        have hc := hnM.2 (q / d.sz) _ (List.getElem?_eq_getElem hql)
        refine d.K_one (d.K_of_M hc) _ ?_
        rw [List.mem_iff_getElem?]
        refine ⟨q % d.sz, ?_⟩
        rw [List.getElem?_take, if_pos (Nat.mod_lt _ hs0), List.getElem?_drop, Nat.mul_comm, Nat.div_add_mod, List.getElem?_eq_getElem hq]
      obtain ⟨v1, w1, hrun, h2, hg, _, hat⟩ := run_append_own_at (P := P) W base t o.type e i0 z d.sz bytes ht hi hz0 hz1 hz2 hz hs0 v xs.length inner hown ad m c news (by rw [hnM.1, hm]) hnc hone (by simp only [maxLen]; omega) hl hbase
      have hat' : v1.ownBlock = v.ownBlock ∨ ∃ b, v1.ownBlock = some b ∧ W.heap.size ≤ b := by
        rcases hat with hat | hat
        · exact .inl hat
        · exact .inr ⟨_, hat, Nat.le_refl _⟩
      have hne : ∀ k, some k ≠ v.ownBlock → k < W.heap.size → some k ≠ v1.ownBlock := by
        intro k hk hlt
        rcases hat' with hat | ⟨b, hb, hle⟩
        · rw [hat]; exact hk
        · rw [hb]
          intro he
          injection he with he
          omega
      have step : ∀ {q : α} {c : List Value} {o : Nat → Prop}, d.M W base o q c → (∀ k, o k → ok k ∧ some k ≠ v.ownBlock) → d.M w1 base (fun k => ok k ∧ some k ≠ v1.ownBlock) q c := by
        intro q c o hq ho
        have h1 := d.M_move (w1 := w1) (fun k hk => hg.block k hk.2.2.1 (ho k hk.1).2) (d.M_bound hq)
        exact d.M_mono (fun k hk => ⟨(ho k hk.1).1, hne k (ho k hk.1).2 hk.2.2.1⟩) h1
      refine ⟨v1, w1, hrun, ⟨fun k hk => ?_, inner ++ news, by rw [List.length_append, hm]; exact h2, uK (hr.kK (fun _ _ hq => step hq (fun _ hk => hk))) (hnM.kK (fun _ _ hq => step hq hokp))⟩, hg, hat'⟩
      rcases hat' with hat | ⟨b, hb, hle⟩
      · exact hok k (hat ▸ hk)
      · rw [hb] at hk
        injection hk with hk
        exact hfresh k (by omega)
  obtain ⟨v1, w1, hr1, h1, hg, hat⟩ := hrun
  refine wpList_plain hgd fun K hK => ?_
  unfold Oper.wp execOp
  simp only [ho, resolve, invoke, builtin, Sem.run_bind, Sem.run_pure, Result.andThen_ok, List.map_toArray, List.map_cons, List.map_nil, hs, hx, hr1]
  exact hK _ _ (h v1 w1 h1 (HB.grown hg hbase (ny hown)) hg hat)
end
end Kd
namespace Kd
section
variable {P : Program} {ops : Array Oper} {rest : List Oper} {o : Oper} {a : Act} {Q : Exit → Act → World → Prop} {α : Type}
end
end Kd
theorem add_add (a : Addr) (i j : Nat) : (a.add i).add j = a.add (i + j) := by
 unfold Addr.add
 by_cases h1 : i = 0 <;> by_cases h2 : j = 0 <;> simp [h1, h2, Nat.add_assoc]
namespace Kd
section
variable {α : Type} {k : Kd α} {w : World} {A : Option Addr} {xs : List α} {m c : Nat}
theorem Lx (h : k.C w A xs.length xs) (hm : m ≤ xs.length) : k.C w A (xs.take m).length (xs.take m) := by
 have hl : (xs.take m).length = m := by rw [List.length_take]; omega
 refine ⟨rfl, by rw [hl]; have := h.2.1; omega, fun hp => ?_⟩; obtain ⟨ad, e, hc⟩ := h.2.2 (by omega); refine ⟨ad, e, fun j p hj => hc j p ?_⟩; rw [List.getElem?_take] at hj
 split at hj
 · exact hj
 · cases hj
theorem AA (h : k.C w A xs.length xs) (hm : m ≤ xs.length) (hc : xs.length ≤ c) : k.C w (if c = m then A else A.map (·.add (m * k.sz))) (xs.drop m).length (xs.drop m) := by
 have hl : (xs.drop m).length = xs.length - m := List.length_drop; refine ⟨rfl, by rw [hl]; have := h.2.1; omega, fun hp => ?_⟩; rw [hl] at hp; obtain ⟨ad, rfl, hcell⟩ := h.2.2 (by omega); rw [if_neg (by omega)]; refine ⟨ad.add (m * k.sz), rfl, fun j p hj => ?_⟩; rw [List.getElem?_drop] at hj; obtain ⟨cs, h1, h2, h3⟩ := hcell (m + j) p hj; refine ⟨cs, h1, h2, fun i u hu => ?_⟩; rw [add_add, show m * k.sz + (j * k.sz + i) = (m + j) * k.sz + i by rw [Nat.add_mul]; omega]; exact h3 i u hu
end
end Kd
section
variable {P : Program}
theorem JX (t e : TypeId) (kl kh : IntKind) {i : TypeInfo} (ht : P.underlying t = some (.slice e)) (hi : P.info? e = some i) (size : Nat) (hsz : i.size = size) (A : Option Addr) (n c : Nat) (lo hi' : Int) (h0 : 0 ≤ lo) (h1 : lo ≤ hi') (h2 : hi' ≤ n) (hc : n ≤ c) :
    ∀ W : World, (Instr.slice t (.slice A n c) (some (.int kl lo)) (some (.int kh hi')) none).run P W = .ok (.slice (if c = lo.toNat then A else A.map (·.add (lo.toNat * size))) (hi'.toNat - lo.toNat) (c - lo.toNat)) W := by
 intro W; have hel : P.elem t = e := by simp [Program.elem, ht]
 have hu : P.underlying t = some (.slice (P.elem t)) := by rw [hel]; exact ht
 rw [run_slice_lh W t A n c hu kl kh lo hi' h0 h1 (by omega), hel]
 simp [sizeOf, typeInfo, hi, hsz, sliced, Result.andThen]
end
theorem ai {w W : World} (h : Below w.heap.size w W) : w.heap.size ≤ W.heap.size := h.size
theorem aM {w W w2 : World} (h : Below w.heap.size w W) (k : Below W.heap.size W w2) : Below w.heap.size w w2 := ij h h.size k
theorem bM {w W : World} {g j : Nat} {v : Value} (h : Below w.heap.size w W) (hg : w.heap.size ≤ g) : Below w.heap.size w (W.setCell ⟨g, j, none⟩ v) := h.setCell hg _
theorem gi {w W : World} {g : Nat} {row : Option Nat} (h : bE w W g row) (m : Nat) : bE w (W.drewN m) g row := h
theorem eK {w W : World} {g : Nat} (h : bE w W g none) (o : Obj) : bE w (W.alloc o) g none := h.trans (bE.rT (World.grownBy_alloc W o none) g) (.inl rfl)
theorem cx (a : Addr) (i : Nat) : (a.add i).block = a.block := by unfold Addr.add; split <;> rfl
theorem mQ {w0 w w1 : World} {B : Nat} (h : Below w0.heap.size w0 w) (hB : w0.heap.size ≤ B) (k : Below B w w1) : Below w0.heap.size w0 w1 :=
  h.trans ⟨k.os, k.tape, k.output, k.size, fun i hi => k.block i (Nat.lt_of_lt_of_le hi hB)⟩
theorem iy.nil {α : Type} (enc : α → Value) (d : α) (W : World) : iy enc d W none ([] : List α).length [] := ⟨rfl, by simp, fun h => absurd h (Nat.lt_irrefl 0)⟩
theorem iy.drewN {α : Type} {enc : α → Value} {d : α} {W : World} {A : Option Addr} {n : Nat} {xs : List α} (h : iy enc d W A n xs) (m : Nat) : iy enc d (W.drewN m) A n xs := h
theorem cell_far {W : World} {p a : Addr} (h : a.block ≠ p.block) (u : Value) : (W.setCell p u).cell? a = W.cell? a := by
 have := Below.heap_setCell W p u a.block h
 simp [World.cell?, this]
theorem fO {w : World} {g : Nat} {t : TypeId} {cs cs' : Array Value} (h : w.heap[g]? = some (.cells cs t (0, 0))) (i : Nat) (u : Value) (e : cs.setIfInBounds i u = cs') : (w.setCell ⟨g, i, none⟩ u).heap[g]? = some (.cells cs' t (0, 0)) := e ▸ jt h i u
theorem AB {w W : World} {g : Nat} {row : Option Nat} (h : bE w W g row) {p : Addr} (hp : w.heap.size ≤ p.block) (u : Value) : bE w (W.setCell p u) g row :=
  ⟨by simpa [World.setCell] using h.1, fun i hi hg hr => (Below.heap_setCell W p u i (by omega)).trans (h.2 i hi hg hr)⟩
theorem bw {base : Nat} {w W : World} (h : Below base w W) : Below base w W.drew := h.drew
theorem jr {w W : World} {g : Nat} {row : Option Nat} (h : bE w W g row) : bE w W.drew g row := h
namespace Kd
section
variable {α β : Type} {d : Kd α} {d' : Kd β} {e e' base base' n : Nat} {ok ok' : Nat → Prop} {w W w1 W1 : World} {v u : Value} {xs : List α} {ys : List β} {A : Option Addr} {c : Nat}
end
section
variable {α : Type} {enc : α → Value} {h1 : ∀ x, (enc x).oneCell' = true} {w W : World} {A : Option Addr} {n g : Nat} {xs : List α}
end
end Kd
namespace Kd
section
variable {α : Type} {d : Kd α} {e base g : Nat} {ok : Nat → Prop} {w w1 : World} {v : Value} {xs : List α} {o : Obj}
theorem mR (h : d.R e w1 w.heap.size ok v xs) (hb : w.heap[g]? = some o) : d.R e w1 w.heap.size (fun k => ok k ∧ k ≠ g) v xs := au (kG h) (fun k hk => ⟨hk.1, by have := cY hb; have := hk.2.1; omega⟩)
theorem Ly (hb : w.heap[g]? = some o) : ∀ k, w.heap.size ≤ k → k ≠ g := fun k hk => by have := cY hb; omega
end
end Kd
section
variable {P : Program} {ops : Array Oper} {rest : List Oper} {o : Oper} {a : Act} {Q : Exit → Act → World → Prop}
theorem bW {W : World} (hgd : o.guard = none) {N : Tmp} (_hd : o.dst = some N) {cs : Array Value} {t : TypeId}
    (hrun : (execOp a.eval o).run P W = .ok (.value (.pointer (some ⟨W.heap.size, 0, none⟩))) (W.alloc (.cells cs t (0, 0))))
    (h : ∀ g, g = W.heap.size → ∀ w1, w1.heap[g]? = some (.cells cs t (0, 0)) → Below W.heap.size W w1 → wpList P ops Q rest (a.put o.dst (.pointer (some ⟨g, 0, none⟩))) w1) : wpList P ops Q (o :: rest) a W :=
  Kd.j6 hgd hrun (h _ rfl _ (eJ W _) (aH (Below.refl _ _) _))
end
namespace Kd
section
variable {α : Type} {enc : α → Value} {h1 : ∀ x, (enc x).oneCell' = true} {e base g n cap : Nat} {ok : Nat → Prop} {W : World} {xs : List α}
theorem mM (d : α) (h : (scalar enc h1).R e W base ok (.slice (some ⟨g, 0, none⟩) n cap) xs) (i : Int) (h0 : 0 ≤ i) (hi : i < n) : W.cell? ⟨g, i.toNat, none⟩ = some (enc (fW d xs i)) ∧ W.frozen? ⟨g, i.toNat, none⟩ = false := by
 obtain ⟨rfl, _⟩ := av h; exact Lt d h i h0 hi
theorem FE (h : (scalar enc h1).R e W base ok (.slice (some ⟨g, 0, none⟩) n cap) xs) (i : Int) (x : α) : (scalar enc h1).R e (W.setCell ⟨g, i.toNat, none⟩ (enc x)) base ok (.slice (some ⟨g, 0, none⟩) n cap) (xs.set i.toNat x) := by
 obtain ⟨rfl, _⟩ := av h; exact (Jf h i x).1
end
end Kd
section
variable {P : Program} {ops : Array Oper} {rest : List Oper} {o : Oper} {a : Act} {Q : Exit → Act → World → Prop}
theorem nN {W w1 : World} (hgd : o.guard = none) {t : TypeId} {p : Tmp} {v : Operand} (_ho : o.op = .store t (.tmp p) v) (hN : o.dst = none)
    (hrun : (execOp a.eval o).run P W = .ok .skip w1) (h : ∀ w', w' = w1 → wpList P ops Q rest a w') : wpList P ops Q (o :: rest) a W := by
 refine wpList_plain hgd fun K hK => ?_
 unfold Oper.wp; rw [hrun]; show K (a.put o.dst undef) w1; rw [hN]; exact hK _ _ (h _ rfl)
end
namespace Kd
section
variable {α : Type} {enc : α → Value} {h1 : ∀ x, (enc x).oneCell' = true} {e base g n cap : Nat} {ok : Nat → Prop} {W : World} {xs : List α}
theorem FF (h : (scalar enc h1).R e W base ok (.slice (some ⟨g, 0, none⟩) n cap) xs) (i : Int) (x : α) : (scalar enc h1).R e (W.setCell ⟨g, i.toNat, none⟩ (enc x)) base ok (.slice (some ⟨g, 0, none⟩) n cap) (xs.set i.toNat x) ∧ W.grownBy (W.setCell ⟨g, i.toNat, none⟩ (enc x)) (some g) := by
 obtain ⟨rfl, _⟩ := av h; exact Jf h i x
end
end Kd
section
variable {P : Program} {ops : Array Oper} {rest : List Oper} {o : Oper} {a : Act} {Q : Exit → Act → World → Prop} {W : World}
theorem bG {N : Tmp} (_hN : o.dst = some N) (h : wpList P ops Q (o :: rest) a W) : wpList P ops Q (o :: rest) a W := h
theorem oH {t : TypeId} {p : Tmp} {v : Operand} (_ho : o.op = .store t (.tmp p) v) (h : wpList P ops Q (o :: rest) a W) : wpList P ops Q (o :: rest) a W := h
end
section
variable {P : Program} {ops : Array Oper} {o : Oper} {a : Act} {Q : Exit → Act → World → Prop} {Kc : Act → World → Prop}
theorem Dw {W w1 : World} {v : Value} (hw : Region.wanted o (yielded ops a.tmps) = true) (hrun : (execOp a.eval o).run P W = .ok (.value v) w1) (h : Kc (a.put o.dst v) w1) : if Region.wanted o (yielded ops a.tmps) = true then Oper.wp P o a W Kc Q else Kc (a.put o.dst undef) W := by
 rw [if_pos hw]; unfold Oper.wp; rw [hrun]; exact h
namespace Kd
variable {α : Type}
theorem gj (d : Kd α) {w0 W : World} (base e : Nat) (hw : Region.wanted o (yielded ops a.tmps) = true) {N : Tmp} (_hd : o.dst = some N) {xs : List α} {inner : List Value} {ok okp : Nat → Prop}
    (hrun : (execOp a.eval o).run P W = .ok (.value (.slice (some ⟨W.heap.size, 0, none⟩) xs.length xs.length)) (W.alloc (.cells inner.toArray e)))
    (hrep : bK (d.M W base okp) d.sz xs inner) (hok : ∀ k, okp k → ok k) (hfresh : ok W.heap.size) (HB : Below base w0 W) (hbase : base ≤ W.heap.size) (hm : xs.length ≤ 9223372036854775807)
    (h : ∀ v1 w1, d.R e w1 base ok v1 xs → Below base w0 w1 → W.grownBy w1 none → (∃ b, v1.ownBlock = some b ∧ W.heap.size ≤ b) → Kc (a.put o.dst v1) w1) : if Region.wanted o (yielded ops a.tmps) = true then Oper.wp P o a W Kc Q else Kc (a.put o.dst undef) W := by
 refine Dw hw hrun (h _ _ ⟨fun k hk => ?_, inner, ?_, ?_⟩ (HB.alloc hbase _) (World.grownBy_alloc W _ none) ⟨W.heap.size, by simp [Value.ownBlock], Nat.le_refl _⟩)
 ·
  have : W.heap.size = k := by simpa [Value.ownBlock] using hk
  subst this; exact hfresh
 ·
  have h2 := World.ownsRow_lit (base := base) (e := e) (size := d.sz) W inner.toArray xs.length hbase (by simpa [maxLen] using hm) (by simpa using hrep.1)
  simpa using h2
 ·
  refine hrep.kK (fun p c hp => d.M_mono (fun k hk => ⟨hok k hk.1, fun he => ?_⟩) (CP (d.M_bound hp) (aH (Below.refl _ _) _))); have h3 : k = W.heap.size := by simpa [Value.ownBlock] using he
  have := hk.2.2.1
  omega
theorem eI (d : Kd α) {Rr : α → List Value → Prop} {w0 W : World} (base : Nat) (hw : Region.wanted o (yielded ops a.tmps) = true) (s x : Operand) (t e : TypeId) (z : Value) (bytes : Nat)
    (ho : o.op = .call { callee := .builtin .append, args := #[s, x], argTypes := #[t, t] })
    (ht : P.underlying t = some (.slice e)) (hinfo : (P.info? e).map (fun i => (i.zero, i.size, i.bytes)) = some (some z, d.sz, bytes)) (hz : z.cells.size = d.sz) (hs0 : 0 < d.sz) (hb0 : 0 < bytes)
    (v : Value) (xs ys : List α) (A : Option Addr) (m c : Nat) (ok okp : Nat → Prop) (hs : a.eval s = v) (hx : a.eval x = .slice A m c)
    (HO : d.R e W base ok v xs) (HR : gT Rr d.sz W A m ys) (hKM : ∀ x cs, Rr x cs → d.M W base okp x cs) (hokp : ∀ k, okp k → ok k ∧ some k ≠ v.ownBlock) (hfresh : ∀ k, W.heap.size ≤ k → ok k)
    (HB : Below base w0 W) (hbase : base ≤ W.heap.size) (hl : (xs.length + m) * bytes ≤ 140737488355328)
    (h : ∀ v1 w1, d.R e w1 base ok v1 (xs ++ ys) → Below base w0 w1 → W.grownBy w1 v.ownBlock → (v1.ownBlock = v.ownBlock ∨ ∃ b, v1.ownBlock = some b ∧ W.heap.size ≤ b) → Kc (a.put o.dst v1) w1) :
    if Region.wanted o (yielded ops a.tmps) = true then Oper.wp P o a W Kc Q else Kc (a.put o.dst undef) W := by
  obtain ⟨i0, hi, hzz⟩ := Option.map_eq_some_iff.1 hinfo
  simp only [Prod.mk.injEq] at hzz
  obtain ⟨hz0, hz1, hz2⟩ := hzz
  have hm : ys.length = m := HR.1
  have hlen : xs.length + m ≤ 140737488355328 := Nat.le_trans (Nat.le_mul_of_pos_right _ hb0) hl
  obtain ⟨hok, inner, hown, hr⟩ := HO
  have hrun : ∃ v1 w1, (Builtin.append_ #[t, t] o.type #[v, .slice A m c]).run P W = .ok v1 w1 ∧ d.R e w1 base ok v1 (xs ++ ys) ∧ W.grownBy w1 v.ownBlock ∧ (v1.ownBlock = v.ownBlock ∨ ∃ b, v1.ownBlock = some b ∧ W.heap.size ≤ b) := by
    rcases A with _ | ad
    · have h0 : m = 0 := by
        rcases Nat.eq_zero_or_pos m with h0 | h0
        · exact h0
        · obtain ⟨ad, h, _⟩ := HR.2.2 h0
          cases h
      subst h0
      obtain rfl : ys = [] := List.eq_nil_of_length_eq_zero hm
      refine ⟨v, W, ?_, by rw [List.append_nil]; exact ⟨hok, inner, hown, hr⟩, World.grownBy.refl W _, .inl rfl⟩
      rcases hown.2 with ⟨rfl, hn⟩ | ⟨g, cap, cur, rfl, _, _, hnc, _⟩
      · simp [Builtin.append_, run_underlying ht, sizeOf, typeInfo, hi, Builtin.lenOf, Builtin.firstCells]
      · simp [Builtin.append_, run_underlying ht, sizeOf, typeInfo, hi, Builtin.lenOf, Builtin.firstCells, hnc, storeCells]
    · obtain ⟨news, hnr, hnc⟩ := gT.Fx HR
      have hnM : bK (d.M W base okp) d.sz ys news := hnr.kK (fun p c hp => hKM p c hp)
      have hone : ∀ u ∈ news, u.oneCell' = true := by
        intro u hu
        obtain ⟨q, hq, rfl⟩ := List.mem_iff_getElem.1 hu
        have hql : q / d.sz < ys.length := by
          rw [Nat.div_lt_iff_lt_mul hs0]
          rw [← hnM.1]
          exact hq
        have hc := hnM.2 (q / d.sz) _ (List.getElem?_eq_getElem hql)
        refine d.K_one (d.K_of_M hc) _ ?_
        rw [List.mem_iff_getElem?]
        refine ⟨q % d.sz, ?_⟩
        rw [List.getElem?_take, if_pos (Nat.mod_lt _ hs0), List.getElem?_drop, Nat.mul_comm, Nat.div_add_mod, List.getElem?_eq_getElem hq]
      obtain ⟨v1, w1, hrun, h2, hg, _, hat⟩ := run_append_own_at (P := P) W base t o.type e i0 z d.sz bytes ht hi hz0 hz1 hz2 hz hs0 v xs.length inner hown ad m c news (by rw [hnM.1, hm]) hnc hone (by simp only [maxLen]; omega) hl hbase
      have hat' : v1.ownBlock = v.ownBlock ∨ ∃ b, v1.ownBlock = some b ∧ W.heap.size ≤ b := by
        rcases hat with hat | hat
        · exact .inl hat
        · exact .inr ⟨_, hat, Nat.le_refl _⟩
      have hne : ∀ k, some k ≠ v.ownBlock → k < W.heap.size → some k ≠ v1.ownBlock := by
        intro k hk hlt
        rcases hat' with hat | ⟨b, hb, hle⟩
        · rw [hat]; exact hk
        · rw [hb]
          intro he
          injection he with he
          omega
      have step : ∀ {q : α} {c : List Value} {o : Nat → Prop}, d.M W base o q c → (∀ k, o k → ok k ∧ some k ≠ v.ownBlock) → d.M w1 base (fun k => ok k ∧ some k ≠ v1.ownBlock) q c := by
        intro q c o hq ho
        have h1 := d.M_move (w1 := w1) (fun k hk => hg.block k hk.2.2.1 (ho k hk.1).2) (d.M_bound hq)
        exact d.M_mono (fun k hk => ⟨(ho k hk.1).1, hne k (ho k hk.1).2 hk.2.2.1⟩) h1
      refine ⟨v1, w1, hrun, ⟨fun k hk => ?_, inner ++ news, by rw [List.length_append, hm]; exact h2, uK (hr.kK (fun _ _ hq => step hq (fun _ hk => hk))) (hnM.kK (fun _ _ hq => step hq hokp))⟩, hg, hat'⟩
      rcases hat' with hat | ⟨b, hb, hle⟩
      · exact hok k (hat ▸ hk)
      · rw [hb] at hk
        injection hk with hk
        exact hfresh k (by omega)
  obtain ⟨v1, w1, hr1, h1, hg, hat⟩ := hrun
  rw [if_pos hw]
  unfold Oper.wp execOp
  simp only [ho, resolve, invoke, builtin, Sem.run_bind, Sem.run_pure, Result.andThen_ok, List.map_toArray, List.map_cons, List.map_nil, hs, hx, hr1]
  exact h v1 w1 h1 (HB.grown hg hbase (ny hown)) hg hat
end Kd
end
inductive uZ (P : Program) (tmps : Array Value) (w : World) : List ResultVar → List Value → Prop where
  | nil : uZ P tmps w [] []
  | tmp {u : Tmp} {rs : List ResultVar} {vs : List Value} (h : uZ P tmps w rs vs) : uZ P tmps w (.tmp u :: rs) (tmps.getD u undef :: vs)
  | cell {p : Tmp} {ty : TypeId} {rs : List ResultVar} {vs : List Value} (g : Nat) (t : TypeId) (cs : Array Value) (fr : Nat × Nat) (d : TypeDesc)
      (hp : tmps.getD p undef = .pointer (some ⟨g, 0, none⟩)) (hg : w.heap[g]? = some (.cells cs t fr))
      (hu : P.underlying ty = some d) (hd : (match d with | .struct _ | .array _ _ => true | _ => false) = true) (hi : (P.info? ty).map (·.size) = some cs.size)
      (h : uZ P tmps w rs vs) : uZ P tmps w (.cell p ty :: rs) (.agg cs :: vs)
section
variable {P : Program} {tmps : Array Value} {w : World}
theorem GJ {rs : List ResultVar} {vs : List Value} (hv : uZ P tmps w rs vs) (f : ResultVar → Sem Value) (hf : ∀ u, f (.tmp u) = pure (tmps.getD u undef)) (hc : ∀ a t, f (.cell a t) = (do loadVar t (← asAddr (tmps.getD a undef)))) :
    (rs.mapM f).run P w = .ok vs w := by
 induction hv with
 | nil => simp
 | tmp h ih => simp [List.mapM_cons, hf, ih]
 | cell g t cs fr d hp hg hu hd hi h ih =>
  rw [List.mapM_cons, hc, hp]
  simp [asAddr, run_loadVar_row w g t _ cs fr d hg hu hd hi, ih]
theorem ic {fn : Func} {rs : List ResultVar} {vs : List Value} (h : fn.results = rs.toArray) (hl : vs.length ≠ 1) (hv : uZ P tmps w rs vs) : (results fn tmps).run P w = .ok (.tuple vs.toArray) w := by
 unfold results; rw [h, List.mapM_toArray]; simp only [Sem.run_bind, Sem.run_map]; rw [GJ hv]
 · simp [hl]
 ·
  intro u
  rfl
 ·
  intro a t
  rfl
end
namespace Kd
section
variable {P : Program} {α : Type}
end
section
variable {P : Program} {ops : Array Oper} {rest : List Oper} {o : Oper} {a : Act} {Q : Exit → Act → World → Prop} {Kc : Act → World → Prop} {α : Type}
end
end Kd
end Go.Proofs.YtfgnjndfnijjoaaGreatW.PrintWords
end
section
namespace Go.Proofs.YtfgnjndfnijjoaaGreatW.PrintLast
section
variable {P : Program} {ops : Array Oper} {Q : Exit → Act → World → Prop} {md : Region.Mode} {S : World → Prop} {ds : List Nat}
def Region.kC (md : Region.Mode) (ops : Array Oper) (i : Nat) : Nat → Nat → Bool
  | 0, _ => false
  | fuel + 1, d => match ops[d]? with
    | some o => o.after.any fun e => Region.binds md e && (e.on == i || Region.kC md ops i fuel e.on)
    | none => false
def Region.qi (md : Region.Mode) (ops : Array Oper) (listed : Array Bool) : Bool :=
  (List.range ops.size).all fun j => !listed.getD j false || match ops[j]? with
    | some o => o.after.all fun e => !Region.binds md e || listed.getD e.on false
    | none => true
def Region.zH (md : Region.Mode) (ops : Array Oper) (listed : Array Bool) (ds : List Nat) (i : Nat) : Bool :=
  ds.all fun d => listed.getD d true || Region.kC md ops i ops.size d
def jv (md : Region.Mode) (ops : Array Oper) (listed : Array Bool) : Prop :=
  ∀ j oj, ops[j]? = some oj → listed.getD j false = true → ∀ e ∈ oj.after, Region.binds md e = true → listed.getD e.on false = true
theorem Region.AE {listed : Array Bool} (h : Region.qi md ops listed = true) : jv md ops listed := by
 intro j oj hj hl e he hb; have hlt : j < ops.size := (Array.getElem?_eq_some_iff.1 hj).1; have h1 := List.all_eq_true.1 h j (List.mem_range.2 hlt); simp only [hl, hj, Bool.not_true, Bool.false_or] at h1; have h2 := Array.all_eq_true_iff_forall_mem.1 h1 e he
 simpa [hb] using h2
theorem jv.set {listed : Array Bool} {i : Nat} (h : jv md ops listed) (hi : i ∈ Region.ready md ops listed) : jv md ops (listed.setIfInBounds i true) := by
 obtain ⟨_, oi, hoi, hall⟩ := mem_ready.1 hi; intro j oj hj hl e he hb
 by_cases hij : i = j
 ·
  subst hij; have : oj = oi := Option.some.inj (hj.symm.trans hoi); subst this; exact getD_set_true (hall e he hb)
 ·
  rw [getD_set_ne false hij] at hl; exact getD_set_true (h j oj hj hl e he hb)
theorem Region.tn {listed : Array Bool} {i : Nat} (hc : jv md ops listed) : ∀ (fuel d : Nat), Region.kC md ops i fuel d = true → listed.getD d false = true → listed.getD i false = true
  | 0, _, h, _ => by simp [Region.kC] at h
  | fuel + 1, d, h, hl => by
    unfold Region.kC at h
    cases ho : ops[d]? with
    | none => rw [ho] at h; simp at h
    | some o =>
      rw [ho] at h
      obtain ⟨e, he, h1⟩ := Array.any_eq_true'.1 h
      simp only [Bool.and_eq_true, Bool.or_eq_true, beq_iff_eq] at h1
      have hle := hc d o ho hl e he h1.1
      rcases h1.2 with h2 | h2
      · rw [← h2]; exact hle
      · exact Region.tn hc fuel e.on h2 hle
theorem Region.vR {listed : Array Bool} {i d fuel : Nat} (hc : jv md ops listed) (hr : Region.kC md ops i fuel d = true) (hun : listed.getD i true = false) : d ∉ Region.ready md ops listed := by
 intro hd; obtain ⟨_, o, ho, hall⟩ := mem_ready.1 hd
 have hi : listed.getD i false = true := by
  cases fuel with
  | zero => simp [Region.kC] at hr
  | succ n =>
   unfold Region.kC at hr; rw [ho] at hr; obtain ⟨e, he, h1⟩ := Array.any_eq_true'.1 hr; simp only [Bool.and_eq_true, Bool.or_eq_true, beq_iff_eq] at h1; have hle := hall e he h1.1
   rcases h1.2 with h2 | h2
   · rw [← h2]; exact hle
   · exact Region.tn hc n e.on h2 hle
 rcases Nat.lt_or_ge i listed.size with h' | h'
 ·
  simp [h'] at hun hi
  rw [hun] at hi
  cases hi
 · simp [Array.getElem?_eq_none h'] at hun
def cN (P : Program) (md : Region.Mode) (ops : Array Oper) (Q : Exit → Act → World → Prop) (S : World → Prop) (ds : List Nat) : Nat → Array Bool → Act → World → Prop
  | 0, listed, a, w => Region.ready md ops listed = [] ∧ Q .normal a w
  | fuel + 1, listed, a, w =>
    (Region.ready md ops listed = [] → Q .normal a w) ∧
    ∀ i ∈ Region.ready md ops listed, wpOp P ops Q i (fun a' w' => (i ∉ ds → S w → S w') ∧ cN P md ops Q S ds fuel (listed.setIfInBounds i true) a' w') a w
theorem sW : ∀ (fuel : Nat) (listed : Array Bool) (a : Act) (w : World), cN P md ops Q S ds fuel listed a w → wpAny P md ops Q fuel listed a w
  | 0, _, _, _, h => h
  | fuel + 1, _, _, _, h => ⟨h.1, fun i hi => wpOp_mono (fun a' w' h' => sW fuel _ a' w' h'.2) (h.2 i hi)⟩
theorem vS {i : Nat} {oi : Oper} {v : Value} (hi : ops[i]? = some oi) (hsel : ∀ (j : Nat) (o : Oper) cs b, ops[j]? = some o → o.op ≠ .select cs b)
    (hQ : ∀ c a w, Q (.panic c) (a.put oi.dst v) w → Q (.panic c) a w) (n : Nat) :
    ∀ (fuel : Nat) (listed : Array Bool) (a : Act) (w : World),
      (∀ j oj, ops[j]? = some oj → j ≠ i → listed.getD j true = false → (∀ e ∈ oj.after, Region.binds md e = true → e.on ≠ i) → oi.apart ops oj = true) →
      jv md ops listed → (∀ d ∈ ds, listed.getD d true = false → Region.kC md ops i n d = true) →
      i ∈ Region.ready md ops listed → YieldsIf P ops S oi v a → S w →
      cN P md ops Q S ds fuel (listed.setIfInBounds i true) (a.put oi.dst v) w → cN P md ops Q S ds (fuel + 1) listed a w := by
 intro fuel
 induction fuel with
 | zero =>
  intro listed a w _ _ _ hr hy hS H; refine ⟨fun h => (by rw [h] at hr; cases hr), fun j hj => ?_⟩
  by_cases hji : j = i
  · subst hji; exact hy.wpOp hi hS ⟨fun _ h => h, H⟩
  ·
   have := ready_mono hj hji; rw [H.1] at this
   cases this
 | succ fuel ih =>
  intro listed a w hfree hc hd hr hy hS H; refine ⟨fun h => (by rw [h] at hr; cases hr), fun j hj => ?_⟩
  by_cases hji : j = i
  · subst hji; exact hy.wpOp hi hS ⟨fun _ h => h, H⟩
  ·
   have h1 := H.2 j (ready_mono hj hji); obtain ⟨hjun, oj, hoj, hall⟩ := mem_ready.1 hj; have hiun := (mem_ready.1 hr).1
   have hnot : ∀ e ∈ oj.after, Region.binds md e = true → e.on ≠ i := fun e he hb heq => by
    have h1 := hall e he hb; rw [heq] at h1
    rcases Nat.lt_or_ge i listed.size with h' | h'
    · simp [h'] at hiun h1; rw [hiun] at h1; cases h1
    · simp [Array.getElem?_eq_none h'] at h1
   have hjd : j ∉ ds := fun hm => Region.vR hc (hd j hm hjun) hiun hj
   have h2 := wpOp_putIf hoj (hfree j oj hoj hji hjun hnot) (fun cs b => hsel i oi cs b hi) (fun cs b => hsel j oj cs b hoj) hQ hy h1
   have hfree' : ∀ k ok, ops[k]? = some ok → k ≠ i → (listed.setIfInBounds j true).getD k true = false →
    (∀ e ∈ ok.after, Region.binds md e = true → e.on ≠ i) → oi.apart ops ok = true := fun k ok hk hki hun hno => by
    refine hfree k ok hk hki ?_ hno
    by_cases hjk : j = k
    · subst hjk; exact hjun
    · rw [getD_set_ne true hjk] at hun; exact hun
   have hd' : ∀ d ∈ ds, (listed.setIfInBounds j true).getD d true = false → Region.kC md ops i n d = true := fun d hm hun => by
    refine hd d hm ?_
    by_cases hjk : j = d
    · subst hjk; exact hjun
    · rw [getD_set_ne true hjk] at hun; exact hun
   refine wpOp_mono (fun a' w' h3 => ⟨h3.2.1, ih (listed.setIfInBounds j true) a' w' hfree' (hc.set hj) hd' (ready_mono hr (Ne.symm hji)) h3.1 (h3.2.1 hjd hS) ?_⟩) h2; rw [Array.setIfInBounds_comm _ _ hji]; exact h3.2.2
theorem zz {i : Nat} {oi : Oper} {v : Value} (hi : ops[i]? = some oi) (hsel : ∀ (j : Nat) (o : Oper) cs b, ops[j]? = some o → o.op ≠ .select cs b)
    (hQ : ∀ c a w, Q (.panic c) (a.put oi.dst v) w → Q (.panic c) a w) :
    ∀ (fuel : Nat) (listed : Array Bool) (a : Act) (w : World),
      (∀ j oj, ops[j]? = some oj → j ≠ i → listed.getD j true = false → (∀ e ∈ oj.after, Region.binds md e = true → e.on ≠ i) → oi.apart ops oj = true) →
      i ∈ Region.ready md ops listed → Yields P ops oi v a →
      cN P md ops Q S ds fuel (listed.setIfInBounds i true) (a.put oi.dst v) w → cN P md ops Q S ds (fuel + 1) listed a w := by
 intro fuel
 induction fuel with
 | zero =>
  intro listed a w _ hr hy H; refine ⟨fun h => (by rw [h] at hr; cases hr), fun j hj => ?_⟩
  by_cases hji : j = i
  · subst hji; exact (hy.yieldsIf (S := fun _ => True)).wpOp hi trivial ⟨fun _ h => h, H⟩
  ·
   have := ready_mono hj hji; rw [H.1] at this
   cases this
 | succ fuel ih =>
  intro listed a w hfree hr hy H; refine ⟨fun h => (by rw [h] at hr; cases hr), fun j hj => ?_⟩
  by_cases hji : j = i
  · subst hji; exact (hy.yieldsIf (S := fun _ => True)).wpOp hi trivial ⟨fun _ h => h, H⟩
  ·
   have h1 := H.2 j (ready_mono hj hji); obtain ⟨hjun, oj, hoj, hall⟩ := mem_ready.1 hj; have hiun := (mem_ready.1 hr).1
   have hnot : ∀ e ∈ oj.after, Region.binds md e = true → e.on ≠ i := fun e he hb heq => by
    have h1 := hall e he hb; rw [heq] at h1
    rcases Nat.lt_or_ge i listed.size with h' | h'
    · simp [h'] at hiun h1; rw [hiun] at h1; cases h1
    · simp [Array.getElem?_eq_none h'] at h1
   have h2 := wpOp_put hoj (hfree j oj hoj hji hjun hnot) (fun cs b => hsel i oi cs b hi) (fun cs b => hsel j oj cs b hoj) hQ hy h1
   have hfree' : ∀ k ok, ops[k]? = some ok → k ≠ i → (listed.setIfInBounds j true).getD k true = false →
    (∀ e ∈ ok.after, Region.binds md e = true → e.on ≠ i) → oi.apart ops ok = true := fun k ok hk hki hun hno => by
    refine hfree k ok hk hki ?_ hno
    by_cases hjk : j = k
    · subst hjk; exact hjun
    · rw [getD_set_ne true hjk] at hun; exact hun
   refine wpOp_mono (fun a' w' h3 => ⟨h3.2.1, ih (listed.setIfInBounds j true) a' w' hfree' (ready_mono hr (Ne.symm hji)) h3.1 ?_⟩) h2; rw [Array.setIfInBounds_comm _ _ hji]; exact h3.2.2
theorem xz {i : Nat} {oi : Oper} {v : Value} {fuel : Nat} {listed : Array Bool} {a : Act} {w : World} (hi : ops[i]? = some oi)
    (hs : Region.noSelect ops = true) (hf : Region.free md ops listed i = true) (hr : (Region.ready md ops listed).contains i = true)
    (hc : Region.qi md ops listed = true) (hl : Region.zH md ops listed ds i = true)
    (hQ : ∀ c a w, Q (.panic c) (a.put oi.dst v) w → Q (.panic c) a w) (hy : YieldsIf P ops S oi v a) (hS : S w)
    (h : cN P md ops Q S ds fuel (listed.setIfInBounds i true) (a.put oi.dst v) w) : cN P md ops Q S ds (fuel + 1) listed a w :=
  vS hi (Region.noSelect_spec hs) hQ ops.size fuel listed a w (Region.free_spec hi hf) (Region.AE hc)
    (fun d hm hun => by have := List.all_eq_true.1 hl d hm; rw [hun] at this; simpa using this) (by simpa using hr) hy hS h
theorem zA {rs : List Nat} {fuel : Nat} {listed : Array Bool} {a : Act} {w : World} (hr : Region.ready md ops listed = rs) (hne : rs ≠ [])
    (h : ∀ i ∈ rs, wpOp P ops Q i (fun a' w' => (i ∉ ds → S w → S w') ∧ cN P md ops Q S ds fuel (listed.setIfInBounds i true) a' w') a w) : cN P md ops Q S ds (fuel + 1) listed a w :=
  ⟨fun h0 => absurd (hr ▸ h0) hne, hr ▸ h⟩
theorem xA {listed : Array Bool} {a : Act} {w : World} (hr : Region.ready md ops listed = []) (h : Q .normal a w) :
    ∀ fuel, cN P md ops Q S ds fuel listed a w
  | 0 => ⟨hr, h⟩
  | _ + 1 => ⟨fun _ => h, by rw [hr]; simp⟩
theorem xB {id : Nat} {a : Act} {w : World} (hm : P.follows .mixedOrders = true)
    (h : cN P .any ops Q S ds ops.size (Array.replicate ops.size false) a { w with drawn := w.drawn + 1 }) : (Code.region id ops true).wp P Q a w :=
  wp_region_any hm (sW _ _ _ _ h)
end
section
variable {P : Program} {ops : Array Oper} {Q : Exit → Act → World → Prop} {md : Region.Mode} {S : World → Prop} {ds : List Nat}
def iY (P : Program) (md : Region.Mode) (ops : Array Oper) (Q : Exit → Act → World → Prop) (S : World → Prop) (ds : List Nat) (fuel : Nat) (listed : Array Bool) (a : Act) (w : World) (rs : List Nat) : Prop :=
  ∀ i ∈ rs, wpOp P ops Q i (fun a' w' => (i ∉ ds → S w → S w') ∧ cN P md ops Q S ds fuel (listed.setIfInBounds i true) a' w') a w
theorem iY.nil {fuel : Nat} {listed : Array Bool} {a : Act} {w : World} : iY P md ops Q S ds fuel listed a w [] := fun _ h => by cases h
theorem iY.cons {fuel : Nat} {listed : Array Bool} {a : Act} {w : World} {i : Nat} {o : Oper} {rs : List Nat} (ho : ops[i]? = some o) (hd : i ∉ ds)
    (h : ∀ K' : Act → World → Prop, Shut (∀ a w, S w → (S w → cN P md ops Q S ds fuel (listed.setIfInBounds i true) a w) → K' a w) → if Region.wanted o (yielded ops a.tmps) = true then Oper.wp P o a w K' Q else K' (a.put o.dst undef) w)
    (hs : iY P md ops Q S ds fuel listed a w rs) : iY P md ops Q S ds fuel listed a w (i :: rs) := fun j hj => by
  rcases List.mem_cons.1 hj with rfl | hj
  · exact wpOp_step ho (fun K' hK => h K' (fun a w hS hW => hK a w ⟨fun _ _ => hS, hW hS⟩))
  · exact hs j hj
theorem pJ {rs : List Nat} {fuel : Nat} {listed : Array Bool} {a : Act} {w : World} (hr : Region.ready md ops listed = rs) (hne : rs ≠ [])
    (h : iY P md ops Q S ds fuel listed a w rs) : cN P md ops Q S ds (fuel + 1) listed a w := zA hr hne h
theorem iZ {id n : Nat} {a : Act} {w : World} (l : Array Bool) (hm : P.follows .mixedOrders = true) (hn : ops.size = n) (hl : Array.replicate n false = l) (hS : S w.drew)
    (h : S w.drew → cN P .any ops Q S ds n l a w.drew) : (Code.region id ops true).wp P Q a w := by
 subst hn; subst hl; exact xB hm (h hS)
def vT (md : Region.Mode) (ops : Array Oper) (ds : List Nat) (l l' : Array Bool) (i : Nat) : Bool :=
  Region.noSelect ops && Region.free md ops l i && (Region.ready md ops l).contains i && Region.qi md ops l && Region.zH md ops l ds i && (l.setIfInBounds i true == l')
theorem fY {i : Nat} {N : Option Tmp} {oi : Oper} {v : Value} {fuel : Nat} {l : Array Bool} {a : Act} {w : World} (l' : Array Bool) (hi : ops[i]? = some oi) (hN : oi.dst = N) (hc : vT md ops ds l l' i = true)
    (hQ : ∀ c a w, Q (.panic c) (a.put oi.dst v) w → Q (.panic c) a w) (hy : YieldsIf P ops S oi v a) (hS : S w) {a' : Act} (ha : a.put N v = a')
    (h : cN P md ops Q S ds fuel l' a' w) : cN P md ops Q S ds (fuel + 1) l a w := by
 subst ha; subst hN; simp only [vT, Bool.and_eq_true, beq_iff_eq] at hc; obtain ⟨⟨⟨⟨⟨h1, h2⟩, h3⟩, h4⟩, h5⟩, h6⟩ := hc; subst h6; exact xz hi h1 h2 h3 h4 h5 hQ hy hS h
def Dx (md : Region.Mode) (ops : Array Oper) (l l' : Array Bool) (i : Nat) : Bool :=
  Region.noSelect ops && Region.free md ops l i && (Region.ready md ops l).contains i && (l.setIfInBounds i true == l')
theorem fq {i : Nat} {N : Option Tmp} {oi : Oper} {v : Value} {fuel : Nat} {l : Array Bool} {a : Act} {w : World} (l' : Array Bool) (hi : ops[i]? = some oi) (hN : oi.dst = N) (hc : Dx md ops l l' i = true)
    (hQ : ∀ c a w, Q (.panic c) (a.put oi.dst v) w → Q (.panic c) a w) (hy : Yields P ops oi v a) {a' : Act} (ha : a.put N v = a')
    (h : cN P md ops Q S ds fuel l' a' w) : cN P md ops Q S ds (fuel + 1) l a w := by
 subst ha; subst hN; simp only [Dx, Bool.and_eq_true, beq_iff_eq] at hc; obtain ⟨⟨⟨h1, h2⟩, h3⟩, h6⟩ := hc; subst h6; exact zz hi (Region.noSelect_spec h1) hQ fuel l a w (Region.free_spec hi h2) (by simpa using h3) hy h
def vU (md : Region.Mode) (ops : Array Oper) (l l' : Array Bool) (i : Nat) : Bool := (Region.ready md ops l == [i]) && (l.setIfInBounds i true == l')
theorem iB {i : Nat} {N : Option Tmp} {oi : Oper} {fuel : Nat} {l : Array Bool} {a : Act} {w : World} (l' : Array Bool) (hi : ops[i]? = some oi) (hN : oi.dst = N) (hc : vU md ops l l' i = true) (hd : i ∉ ds)
    (h : ∀ K : Act → World → Prop, Shut (∀ a' w', S w' → (S w' → cN P md ops Q S ds fuel l' a' w') → K a' w') → if Region.wanted oi (yielded ops a.tmps) = true then Oper.wp P oi a w K Q else K (a.put N undef) w) :
    cN P md ops Q S ds (fuel + 1) l a w := by
 subst hN; simp only [vU, Bool.and_eq_true, beq_iff_eq] at hc; obtain ⟨h1, h2⟩ := hc; subst h2; exact pJ h1 (by simp) (iY.cons hi hd (fun K hK => h K hK) iY.nil)
theorem jF {l : Array Bool} {a : Act} {w : World} {n : Nat} (hr : (Region.ready md ops l == []) = true) (h : Q .normal a w) : cN P md ops Q S ds n l a w := xA (by simpa using hr) h n
theorem xC {i j : Nat} {Ni Nj : Option Tmp} {oi oj : Oper} {fuel : Nat} {l : Array Bool} {a : Act} {w : World} (li lj : Array Bool) (hi : ops[i]? = some oi) (hj : ops[j]? = some oj) (hNi : oi.dst = Ni) (hNj : oj.dst = Nj)
    (hc : (Region.ready md ops l == [i, j] && l.setIfInBounds i true == li && l.setIfInBounds j true == lj) = true) (hdi : i ∉ ds) (hdj : j ∉ ds)
    (h1 : ∀ K : Act → World → Prop, Shut (∀ a' w', S w' → (S w' → cN P md ops Q S ds fuel li a' w') → K a' w') → if Region.wanted oi (yielded ops a.tmps) = true then Oper.wp P oi a w K Q else K (a.put Ni undef) w)
    (h2 : ∀ K : Act → World → Prop, Shut (∀ a' w', S w' → (S w' → cN P md ops Q S ds fuel lj a' w') → K a' w') → if Region.wanted oj (yielded ops a.tmps) = true then Oper.wp P oj a w K Q else K (a.put Nj undef) w) :
    cN P md ops Q S ds (fuel + 1) l a w := by
 subst hNi; subst hNj; simp only [Bool.and_eq_true, beq_iff_eq] at hc; obtain ⟨⟨h3, h4⟩, h5⟩ := hc; subst h4; subst h5; exact pJ h3 (by simp) (iY.cons hi hdi (fun K hK => h1 K hK) (iY.cons hj hdj (fun K hK => h2 K hK) iY.nil))
def jw : Act → List (Tmp × Value) → Act
  | a, [] => a
  | a, (n, v) :: r => jw (a.put (some n) v) r
theorem Dy {σ : Type} {fuel : Nat} {l : Array Bool} {a : Act} {w : World} (fuel' : Nat) (l' : Array Bool) (ns : σ → List (Tmp × Value)) (F : σ → World → Prop)
    (hcont : ∀ s w', F s w' → cN P md ops Q S ds fuel' l' (jw a (ns s)) w')
    (h : (∀ s w', F s w' → cN P md ops Q S ds fuel' l' (jw a (ns s)) w') → cN P md ops Q S ds fuel l a w) : cN P md ops Q S ds fuel l a w := h hcont
theorem dH {fuel : Nat} {l : Array Bool} {a a' : Act} {w : World} (ha : a = a') (h : cN P md ops Q S ds fuel l a' w) : cN P md ops Q S ds fuel l a w := by
 subst ha; exact h
theorem NH {oi : Oper} {N : Option Tmp} {a : Act} {w : World} {K : Act → World → Prop} (f : FuncId) (args : Array Value) (hw : Region.wanted oi (yielded ops a.tmps) = true) (hN : oi.dst = N) (hrun : (execOp a.eval oi).run P w = .ok (.enter f args) w)
    (h : Calls P f args w fun e w' => ∃ v, e = .returned v ∧ K (a.put N v) w') : if Region.wanted oi (yielded ops a.tmps) = true then Oper.wp P oi a w K Q else K (a.put N undef) w := by
 rw [if_pos hw]; subst hN; unfold Oper.wp; rw [hrun, Oper.upon_enter]; refine h.mono fun e w'' hh => ?_
 obtain ⟨v, rfl, hk⟩ := hh; exact hk
theorem CR {f : FuncId} {fn : Func} (hf : P.funcs[f]? = some fn) (hname : (fn.name == "runtime.NumGoroutine") = false) (hb : fn.body.isSome = true) (args : Array Value) (w : World) : (callFunc f args).run P w = .ok (.enter f args) w := by
 have h1 : fn.name ≠ "runtime.NumGoroutine" := by simpa using hname
 obtain ⟨c, hc⟩ := Option.isSome_iff_exists.1 hb
 simp [callFunc, hf, h1, hc]
theorem mS {oi : Oper} {N : Option Tmp} {a : Act} {w : World} {K : Act → World → Prop} {f : FuncId} {fn : Func} {as : Array Operand} {ts : Array TypeId} (hf : P.funcs[f]? = some fn) (hname : (fn.name == "runtime.NumGoroutine") = false) (hb : fn.body.isSome = true) (args : Array Value)
    (hw : Region.wanted oi (yielded ops a.tmps) = true) (hN : oi.dst = N) (hop : oi.op = .call { callee := .value (.func f), args := as, argTypes := ts }) (hargs : as.map a.eval = args)
    (h : Calls P f args w fun e w' => ∃ v, e = .returned v ∧ K (a.put N v) w') : if Region.wanted oi (yielded ops a.tmps) = true then Oper.wp P oi a w K Q else K (a.put N undef) w := by
  refine NH f args hw hN ?_ h
  have he := CR hf hname hb args w
  unfold execOp
  simp [hop, resolve, Deferred.ofValue, invoke, Act.eval, hargs, he]
theorem aD {rest : List Oper} {oi : Oper} {a : Act} {w : World} (N : Option Tmp) (hd : oi.dst = N) (hg : oi.guard = none) {f : FuncId} {fn : Func} {as : Array Operand} {ts : Array TypeId} (hf : P.funcs[f]? = some fn) (hname : (fn.name == "runtime.NumGoroutine") = false) (hb : fn.body.isSome = true) (args : Array Value)
    (hop : oi.op = .call { callee := .value (.func f), args := as, argTypes := ts }) (hargs : as.map a.eval = args)
    (h : Calls P f args w fun e w' => ∃ v, e = .returned v ∧ wpList P ops Q rest (a.put N v) w') : wpList P ops Q (oi :: rest) a w := by
  refine wpList_plain hg fun K hK => ?_
  have he := CR hf hname hb args w
  have hrun : (execOp a.eval oi).run P w = .ok (.enter f args) w := by
    unfold execOp
    simp [hop, resolve, Deferred.ofValue, invoke, Act.eval, hargs, he]
  unfold Oper.wp
  rw [hrun, Oper.upon_enter]
  refine h.mono fun e w'' hh => ?_
  obtain ⟨v, rfl, hk⟩ := hh
  subst hd
  exact hK _ _ hk
theorem bN (n : Int) : IntKind.i64.wrap n = Go.RowKit.wrap64 n := by unfold Go.RowKit.wrap64; exact IntKind.wrap_i64 n
theorem bR (n : Int) : IntKind.i32.wrap n = Go.RowKit.wrap32 n := by unfold Go.RowKit.wrap32; exact IntKind.wrap_i32 n
end
end Go.Proofs.YtfgnjndfnijjoaaGreatW.PrintLast
end
namespace Go.Proofs.YtfgnjndfnijjoaaGreatW.PrintWords
namespace Kd
section
end
section
end
end Kd
end Go.Proofs.YtfgnjndfnijjoaaGreatW.PrintWords
section
namespace Go.Proofs.YtfgnjndfnijjoaaGreatW.PrintWords
open Go.RowKit
namespace Kd
def tag {α : Type} (f : Nat → Nat) (d : Kd α) : Kd (α × Nat) where
  sz := d.sz
  E := d.E
  K := fun w x cs => d.K w x.1 cs
  M := fun w base ok x cs => d.M w base (fun k => ok k ∧ f k = x.2) x.1 cs
  K_len := fun h => d.K_len h
  K_one := fun h => d.K_one h
  K_below := fun hb h => d.K_below hb h
  K_of_M := fun h => d.K_of_M h
  M_mono := fun hok h => d.M_mono (fun k hk => ⟨hok k hk.1, hk.2⟩) h
  M_bound := fun h => d.M_mono (fun _ hk => ⟨⟨hk.1.1, hk.2⟩, hk.1.2⟩) (d.M_bound h)
  M_move := fun hm h => d.M_move (fun k hk => hm k hk.1) h
  M_lower := fun hb h => d.M_lower hb h
def raw (sz : Nat) : Kd (List Value) where
  sz := sz
  E := []
  K := fun _ x cs => cs = x ∧ cs.length = sz ∧ ∀ u ∈ cs, u.oneCell' = true
  M := fun _ _ _ x cs => cs = x ∧ cs.length = sz ∧ ∀ u ∈ cs, u.oneCell' = true
  K_len := fun h => h.2.1
  K_one := fun h => h.2.2
  K_below := fun _ h => h
  K_of_M := fun h => h
  M_mono := fun _ h => h
  M_bound := fun h => h
  M_move := fun _ h => h
  M_lower := fun _ h => h
def S {α : Type} (d : Kd α) (e : Nat) (w : World) (base : Nat) (ok : Nat → Prop) (v : Value) (xs : List α) : Prop := ∃ f, (tag f d).R e w base ok v xs.zipIdx
section
variable {α β : Type} {d : Kd α} {d' : Kd β} {e e' : Nat} {w w1 W : World} {base b : Nat} {ok ok' okv oku : Nat → Prop} {u v : Value} {xs : List α} {ys : List β}
theorem NI (d : Kd α) (e : Nat) (w : World) (base : Nat) (ok : Nat → Prop) : S d e w base ok (.slice none 0 0) [] := ⟨fun _ => 0, iE _ _ _ _ _⟩
end
section
variable {α β : Type} {d : Kd α} {d' : Kd β} {e e' g : Nat} {w w1 W : World} {base b : Nat} {ok ok' okv oku : Nat → Prop} {u v : Value} {xs : List α} {ys : List β}
end
section
variable {P : Program} {ops : Array Oper} {rest : List Oper} {o : Oper} {a : Act} {Q : Exit → Act → World → Prop} {Kc : Act → World → Prop} {α : Type}
end
def gap {α : Type} (f : Nat → Nat) (d : Kd α) (i : Nat) (c : List Value) : Kd (α × Nat) where
  sz := d.sz
  E := d.E
  K := fun w x cs => (x.2 = i → cs = c ∧ cs.length = d.sz ∧ ∀ u ∈ cs, u.oneCell' = true) ∧ (x.2 ≠ i → d.K w x.1 cs)
  M := fun w base ok x cs => (x.2 = i → cs = c ∧ cs.length = d.sz ∧ ∀ u ∈ cs, u.oneCell' = true) ∧ (x.2 ≠ i → d.M w base (fun k => ok k ∧ f k = x.2) x.1 cs)
  K_len := fun {w x cs} h => by
    by_cases hx : x.2 = i
    · exact (h.1 hx).2.1
    · exact d.K_len (h.2 hx)
  K_one := fun {w x cs} h => by
    by_cases hx : x.2 = i
    · exact (h.1 hx).2.2
    · exact d.K_one (h.2 hx)
  K_below := fun hb h => ⟨h.1, fun hx => d.K_below hb (h.2 hx)⟩
  K_of_M := fun h => ⟨h.1, fun hx => d.K_of_M (h.2 hx)⟩
  M_mono := fun hok h => ⟨h.1, fun hx => d.M_mono (fun k hk => ⟨hok k hk.1, hk.2⟩) (h.2 hx)⟩
  M_bound := fun h => ⟨h.1, fun hx => d.M_mono (fun _ hk => ⟨⟨hk.1.1, hk.2⟩, hk.1.2⟩) (d.M_bound (h.2 hx))⟩
  M_move := fun hm h => ⟨h.1, fun hx => d.M_move (fun k hk => hm k hk.1) (h.2 hx)⟩
  M_lower := fun hb h => ⟨h.1, fun hx => d.M_lower hb (h.2 hx)⟩
def H {α : Type} (d : Kd α) (e : Nat) (w : World) (base : Nat) (ok : Nat → Prop) (v : Value) (xs : List α) (i : Int) (oki : Nat → Prop) (c : List Value) : Prop :=
  (∀ k, oki k → ok k) ∧ ∃ f, (gap f d i.toNat c).R e w base (fun k => ok k ∧ ¬ oki k) v xs.zipIdx
section
variable {α β : Type} {d : Kd α} {e e' g n cap : Nat} {w w1 W : World} {base : Nat} {ok ok' oki okp : Nat → Prop} {u v : Value} {xs : List α} {i : Int} {c : List Value}
end
section
variable {P : Program} {ops : Array Oper} {rest : List Oper} {o : Oper} {a : Act} {Q : Exit → Act → World → Prop} {α : Type}
end
end Kd
end Go.Proofs.YtfgnjndfnijjoaaGreatW.PrintWords
end
namespace Go.Proofs.YtfgnjndfnijjoaaGreatW.PrintWords
namespace Kd
section
end
section
end
end Kd
end Go.Proofs.YtfgnjndfnijjoaaGreatW.PrintWords
namespace Go.Proofs.YtfgnjndfnijjoaaGreatW.PrintWords
section
end
namespace Kd
section
end
section
end
section
end
end Kd
end Go.Proofs.YtfgnjndfnijjoaaGreatW.PrintWords
namespace Go.Proofs.YtfgnjndfnijjoaaGreatW.PrintWords
namespace Kd
section
end
end Kd
end Go.Proofs.YtfgnjndfnijjoaaGreatW.PrintWords
section
namespace Go.Proofs.YtfgnjndfnijjoaaGreatW.PrintWords
open Go.RowKit
def Kept (w W : World) (S : Nat → Prop) : Prop := w.heap.size ≤ W.heap.size ∧ ∀ i, i < w.heap.size → ¬ S i → W.heap[i]? = w.heap[i]?
section
variable {w W W2 : World} {S S2 S' : Nat → Prop}
theorem Kept.refl (w : World) (S : Nat → Prop) : Kept w w S := ⟨Nat.le_refl _, fun _ _ _ => rfl⟩
theorem Kept.of_below (h : Below w.heap.size w W) (S : Nat → Prop) : Kept w W S := ⟨h.size, fun i hi _ => h.block i hi⟩
theorem Kept.Dz (h : Kept w W S) (k : Kept W W2 S2) (hs : ∀ k, S2 k → S k ∨ w.heap.size ≤ k) : Kept w W2 S :=
  ⟨Nat.le_trans h.1 k.1, fun i hi hn => (k.2 i (Nat.lt_of_lt_of_le hi h.1) (fun h2 => (hs i h2).elim hn (fun h3 => by omega))).trans (h.2 i hi hn)⟩
theorem Kept.rT {row : Option Nat} (hg : W.grownBy W2 row) (h : Kept w W S) (hr : ∀ k, row = some k → S k ∨ w.heap.size ≤ k) : Kept w W2 S :=
  h.Dz (S2 := fun k => row = some k) ⟨hg.size, fun i hi hn => hg.block i hi (fun he => hn he.symm)⟩ hr
theorem Kept.below (h : Kept w W S) (hb : Below W.heap.size W W2) : Kept w W2 S := h.Dz (Kept.of_below hb (fun _ => False)) (fun _ hk => hk.elim)
theorem Kept.alloc (h : Kept w W S) (o : Obj) : Kept w (W.alloc o) S := h.below (aH (Below.refl _ _) o)
theorem Kept.drew (h : Kept w W S) : Kept w W.drew S := h
theorem Kept.drewN (h : Kept w W S) (m : Nat) : Kept w (W.drewN m) S := h
theorem Kept.setCell (h : Kept w W S) {p : Addr} (hp : S p.block ∨ w.heap.size ≤ p.block) (u : Value) : Kept w (W.setCell p u) S :=
  h.Dz (S2 := fun k => k = p.block) ⟨by simp [World.setCell], fun i _ hn => Below.heap_setCell W p u i hn⟩ (fun k hk => by rw [hk]; exact hp)
theorem GK {g : Nat} {o : Obj} (hb : W.heap[g]? = some o) (hk : Kept W W2 S) (hne : ¬ S g) : W2.heap[g]? = some o := (hk.2 g (cY hb) hne).trans hb
end
namespace Kd
section
variable {α : Type} {d : Kd α} {e base n c : Nat} {ok oki S S2 : Nat → Prop} {w w0 W W1 W2 : World} {v : Value} {A : Option Addr} {xs : List α} {i : Int} {cs : List Value}
theorem n8 (h : d.R e W base ok v xs) (hk : Kept W W2 S) (hne : ∀ k, ok k → ¬ S k) : d.R e W2 base ok v xs := qg h (fun k ho hlt => hk.2 k hlt (hne k ho))
end
end Kd
end Go.Proofs.YtfgnjndfnijjoaaGreatW.PrintWords
end
section
namespace Go.Proofs.YtfgnjndfnijjoaaGreatW.PrintWords
open Go.RowKit
def Foot (P : World → Prop) (W : World) (ok : Nat → Prop) : Prop := ∀ W' : World, (∀ k, ok k → k < W.heap.size → W'.heap[k]? = W.heap[k]?) → P W'
theorem JY {W W1 : World} {k : Nat} (h : W1.heap[k]? = W.heap[k]?) (hlt : k < W.heap.size) : k < W1.heap.size := by
 rw [Array.getElem?_eq_getElem hlt] at h; exact (Array.getElem?_eq_some_iff.1 h).1
namespace Foot
variable {P Q : World → Prop} {W W1 : World} {ok ok' : Nat → Prop}
theorem now (h : Foot P W ok) : P W := h W (fun _ _ _ => rfl)
theorem mono (h : Foot P W ok) (hok : ∀ k, ok k → ok' k) : Foot P W ok' := fun W' hW => h W' (fun k hk hlt => hW k (hok k hk) hlt)
theorem step (h : Foot P W ok) (hm : ∀ k, ok k → k < W.heap.size → W1.heap[k]? = W.heap[k]?) : Foot P W1 ok := fun W' hW => h W' (fun k hk hlt => (hW k hk (JY (hm k hk hlt) hlt)).trans (hm k hk hlt))
end Foot
namespace Kd
def F {α : Type} (d : Kd α) (W : World) (ok : Nat → Prop) (A : Option Addr) (n : Nat) (xs : List α) : Prop := Foot (fun W => d.C W A n xs) W ok
def FK {α : Type} (d : Kd α) (W : World) (ok : Nat → Prop) (x : α) (c : List Value) : Prop := Foot (fun W => d.K W x c) W ok
section
variable {α β : Type} {d : Kd α} {e base n n' cc g N : Nat} {ok ok' okp S : Nat → Prop} {w w0 w1 W W1 : World} {A A' : Option Addr} {u v v1 : Value} {xs : List α} {xs' : List β} {d' : Kd β} {x : α} {c : List Value}
theorem Lz (h : F d W ok A n xs) (hok : ∀ k, ok k → ok' k) : F d W ok' A n xs := Foot.mono h hok
theorem NJ (d : Kd α) (W : World) (ok : Nat → Prop) : F d W ok none ([] : List α).length [] := fun W' _ => ND d W'
theorem FG (h : F d W (fun k => ok k ∧ ok' k) A n xs) : F d W ok A n xs := Lz h (fun _ hk => hk.1)
theorem R_F (h : d.R e W base ok (.slice A n cc) xs) : F d W ok A n xs := fun W' hW => by
  have h2 := av (qg h hW)
  rw [h2.1]
  exact h2.2.2
theorem JZ (h : d.M W base ok x c) : FK d W ok x c := fun _ hW => d.K_of_M (Fy h hW)
end
end Kd
end Go.Proofs.YtfgnjndfnijjoaaGreatW.PrintWords
end
section
namespace Go.Proofs.YtfgnjndfnijjoaaGreatW.PrintWords
open Go.RowKit
namespace Kd
def chunks (sz : Nat) (n : Nat) (inner : List Value) : List (List Value) := (List.range n).map fun j => (inner.drop (j * sz)).take sz
theorem kD (sz n : Nat) (inner : List Value) : (chunks sz n inner).length = n := by simp [chunks]
theorem FH {sz n : Nat} {inner : List Value} {j : Nat} (hj : j < n) : (chunks sz n inner)[j]? = some ((inner.drop (j * sz)).take sz) := by simp [chunks, hj]
theorem vV {sz n : Nat} {inner : List Value} {j : Nat} {c : List Value} (h : (chunks sz n inner)[j]? = some c) : c = (inner.drop (j * sz)).take sz := by
 have hj : j < n := by have := (List.getElem?_eq_some_iff.1 h).1; rwa [kD] at this
 rw [FH hj] at h
 injection h with h
 exact h.symm
theorem GL {α : Type} {Rr : α → List Value → Prop} {sz : Nat} {xs : List α} {inner : List Value} (h : bK Rr sz xs inner) (hR : ∀ x c, Rr x c → c.length = sz ∧ ∀ u ∈ c, u.oneCell' = true) : bK (fun x cs => cs = x ∧ cs.length = sz ∧ ∀ u ∈ cs, u.oneCell' = true) sz (chunks sz xs.length inner) inner := by
 refine ⟨by rw [kD]; exact h.1, fun j p hj => ?_⟩; have hjl : j < xs.length := by have := (List.getElem?_eq_some_iff.1 hj).1; rwa [kD] at this
 have hp := vV hj; exact ⟨hp.symm, hR _ _ (h.2 j _ (List.getElem?_eq_getElem hjl))⟩
section
variable {α : Type} {d : Kd α} {e base n cc g : Nat} {ok ok' okp S : Nat → Prop} {w w1 W W1 : World} {A : Option Addr} {u v v1 : Value} {xs : List α} {x : α} {c : List Value}
def N {α : Type} (d : Kd α) (e : Nat) (w : World) (base : Nat) (ok : Nat → Prop) (v : Value) (xs : List α) : Prop :=
  (∀ k, v.ownBlock = some k → ok k) ∧ ∃ rows : List (List Value), rows.length = xs.length ∧ (raw d.sz).R e w base (fun k => some k = v.ownBlock) v rows ∧ ∀ (j : Nat) (x : α) (c : List Value), xs[j]? = some x → rows[j]? = some c → FK d w (fun k => ok k ∧ some k ≠ v.ownBlock) x c
theorem R_N (h : d.R e w base ok v xs) : N d e w base ok v xs := by
 obtain ⟨h0, inner, ho, hr⟩ := h; refine ⟨h0, chunks d.sz xs.length inner, kD _ _ _, ⟨fun k hk => hk.symm, inner, by rw [kD]; exact ho, GL hr (fun x c hp => ⟨d.K_len (d.K_of_M hp), d.K_one (d.K_of_M hp)⟩)⟩, fun j x c hx hc => ?_⟩; rw [vV hc]; exact JZ (hr.2 j x hx)
theorem NK (d : Kd α) (e : Nat) (w : World) (base : Nat) (ok : Nat → Prop) : N d e w base ok (.slice none 0 0) [] := R_N (iE _ _ _ _ _)
end
end Kd
end Go.Proofs.YtfgnjndfnijjoaaGreatW.PrintWords
end
namespace Go.Proofs.YtfgnjndfnijjoaaGreatW.PrintWords
namespace Kd
section
end
section
end
end Kd
end Go.Proofs.YtfgnjndfnijjoaaGreatW.PrintWords
section
namespace Go.Proofs.YtfgnjndfnijjoaaGreatW.PrintMore
open Go.RowKit Go.Proofs.YtfgnjndfnijjoaaGreatW.PrintWords
namespace Kd
open Go.Proofs.YtfgnjndfnijjoaaGreatW.PrintWords.Kd
end Kd
namespace Kd
open Go.Proofs.YtfgnjndfnijjoaaGreatW.PrintWords.Kd
section
variable {α : Type} {d : Kd α} {e base g N : Nat} {ok : Nat → Prop} {W w1 : World} {u v : Value} {xs : List α}
end
end Kd
theorem dJ (k k' : IntKind) (x y : Int) : Builtin.max2 (.int k x) (.int k' y) = pure (.int k (if x < y then y else x)) := by simp only [Builtin.max2, gt_iff_lt]
theorem dK (k k' : IntKind) (x y : Int) : Builtin.min2 (.int k x) (.int k' y) = pure (.int k (if y < x then y else x)) := by simp only [Builtin.min2]
theorem eF (ats : Array TypeId) (ty : TypeId) (a b : Value) : Builtin.max_ ats ty #[a, b] = (Builtin.max2 a b >>= fun s => pure s) := by simp only [Builtin.max_, List.foldlM_cons, List.foldlM_nil]
theorem eG (ats : Array TypeId) (ty : TypeId) (a b : Value) : Builtin.min_ ats ty #[a, b] = (Builtin.min2 a b >>= fun s => pure s) := by simp only [Builtin.min_, List.foldlM_cons, List.foldlM_nil]
theorem cZ (ats : Array TypeId) (ty : TypeId) (a b c : Value) : Builtin.max_ ats ty #[a, b, c] = (Builtin.max2 a b >>= fun s => Builtin.max2 s c >>= fun s => pure s) := by simp only [Builtin.max_, List.foldlM_cons, List.foldlM_nil]
theorem dc (ats : Array TypeId) (ty : TypeId) (a b c : Value) : Builtin.min_ ats ty #[a, b, c] = (Builtin.min2 a b >>= fun s => Builtin.min2 s c >>= fun s => pure s) := by simp only [Builtin.min_, List.foldlM_cons, List.foldlM_nil]
theorem dL (ats : Array TypeId) (ty : TypeId) (a b c d : Value) : Builtin.max_ ats ty #[a, b, c, d] = (Builtin.max2 a b >>= fun s => Builtin.max2 s c >>= fun s => Builtin.max2 s d >>= fun s => pure s) := by simp only [Builtin.max_, List.foldlM_cons, List.foldlM_nil]
theorem dM (ats : Array TypeId) (ty : TypeId) (a b c d : Value) : Builtin.min_ ats ty #[a, b, c, d] = (Builtin.min2 a b >>= fun s => Builtin.min2 s c >>= fun s => Builtin.min2 s d >>= fun s => pure s) := by simp only [Builtin.min_, List.foldlM_cons, List.foldlM_nil]
end Go.Proofs.YtfgnjndfnijjoaaGreatW.PrintMore
namespace Go.Proofs.YtfgnjndfnijjoaaGreatW.PrintWords
open Go.RowKit
section
variable {P : Program} {ops : Array Oper} {rest : List Oper} {o : Oper} {a : Act} {Q : Exit → Act → World → Prop} {W : World}
theorem ak {f : FuncId} {as : Array Operand} {ts : Array TypeId} (_ho : o.op = .call { callee := .value (.func f), args := as, argTypes := ts }) (h : wpList P ops Q (o :: rest) a W) : wpList P ops Q (o :: rest) a W := h
theorem eB {b : Builtin} {xs : Array Operand} {ts : Array TypeId} (_ho : o.op = .call { callee := .builtin b, args := xs, argTypes := ts }) (h : wpList P ops Q (o :: rest) a W) : wpList P ops Q (o :: rest) a W := h
end
def mx (a b : Int) : Int := if a < b then b else a
def mn (a b : Int) : Int := if b < a then b else a
def shr (k : IntKind) (x y : Int) : Int := x / 2 ^ min y.toNat k.bits
namespace Kd
section
variable {α : Type} {d : Kd α} {e base : Nat} {ok : Nat → Prop} {W w1 : World} {v : Value} {xs : List α}
end
section
variable {α : Type} {d : Kd α} {e base g n cap : Nat} {ok oki okp : Nat → Prop} {W : World} {xs : List α} {i : Int} {c : List Value}
end
section
variable {α : Type} {d : Kd α} {e base b b' g N : Nat} {ok ok1 : Nat → Prop} {W W2 w1 : World} {u v : Value} {xs ys : List α} {S : Nat → Prop}
end
end Kd
end Go.Proofs.YtfgnjndfnijjoaaGreatW.PrintWords
namespace Go.Proofs.YtfgnjndfnijjoaaGreatW.PrintWords
open Go.RowKit
namespace Kd
def V {α : Type} (d : Kd α) (_e : Nat) (W : World) (_base : Nat) (ok : Nat → Prop) (v : Value) (xs : List α) : Prop := ∃ A c, v = .slice A xs.length c ∧ xs.length ≤ c ∧ F d W ok A xs.length xs
section
variable {α β : Type} {d : Kd α} {e base base' n m c g N' lo hi : Nat} {ok ok' S : Nat → Prop} {w W w1 : World} {A : Option Addr} {ad : Addr} {u v v1 : Value} {xs : List α}
theorem NL (d : Kd α) (e : Nat) (W : World) (base : Nat) (ok : Nat → Prop) : V d e W base ok (.slice none 0 0) [] := ⟨none, 0, rfl, Nat.le_refl _, NJ d W ok⟩
end
end Kd
end Go.Proofs.YtfgnjndfnijjoaaGreatW.PrintWords
end
section
namespace Go.Proofs.YtfgnjndfnijjoaaGreatW.PrintWords
open Go.RowKit
def dD (b : Nat) : Nat := if 9218868437227405312 < b % 9223372036854775808 then 9221120237041090560 else b
def FBb (b : Nat) (x : Int) : Bool := decide (b < 18446744073709551616) && decide (x = (dD b : Int))
structure FB (b : Nat) (x : Int) : Prop where mk :: (lt : b < 18446744073709551616) (eq : x = (dD b : Int))
theorem vW (b : Nat) (x : Int) (h : FBb b x = true) : FB b x := by
 simp only [FBb, Bool.and_eq_true, decide_eq_true_eq] at h; exact ⟨h.1, h.2⟩
def FI (n : Int) : Int := (floatOfInt .f64 n : Nat)
theorem lf : Ieee.double.infRung = 9218868437227405312 := by decide
theorem fJ : Ieee.double.signWeight = 9223372036854775808 := by decide
theorem xD (s : Bool) (m : Nat) (p : Int) : Ieee.double.nearest s m p < 18446744073709551616 ∧ Ieee.double.nearest s m p % 9223372036854775808 ≤ 9218868437227405312 := by
 have key : ∀ r : Nat, r ≤ 9218868437227405312 → Ieee.double.word s r < 18446744073709551616 ∧ Ieee.double.word s r % 9223372036854775808 ≤ 9218868437227405312 := by
  intro r hr; unfold Ieee.Format.word; rw [fJ]
  split <;> omega
 unfold Ieee.Format.nearest
 split
 · exact key 0 (by omega)
 ·
  refine key _ ?_; rw [lf]; exact Nat.min_le_right _ _
theorem LB (n : Int) : FB (floatOfInt .f64 n) (FI n) := by
 have h := xD (n < 0) n.natAbs 0; have e : floatOfInt .f64 n = Ieee.double.nearest (n < 0) n.natAbs 0 := rfl; refine ⟨by rw [e]; exact h.1, ?_⟩; unfold FI dD; rw [e, if_neg (by omega)]
namespace Kd
def flt : Kd Int where
  sz := 1
  E := []
  K := fun _ x cs => ∃ b, cs = [.float .f64 b] ∧ FB b x
  M := fun _ _ _ x cs => ∃ b, cs = [.float .f64 b] ∧ FB b x
  K_len := by
    rintro w x cs ⟨b, rfl, _⟩
    rfl
  K_one := by
    rintro w x cs ⟨b, rfl, _⟩ u hu
    rw [List.mem_singleton.1 hu]
    rfl
  K_below := fun _ h => h
  K_of_M := fun h => h
  M_mono := fun _ h => h
  M_bound := fun h => h
  M_move := fun _ h => h
  M_lower := fun _ h => h
end Kd
theorem bH (P : Program) (w : World) (a : Addr) (m : Mode) (k : FloatKind) (b : Nat) : (store a (.float k b) m).run P w = stored P w a (.float k b) m := run_store P w a _ m rfl
end Go.Proofs.YtfgnjndfnijjoaaGreatW.PrintWords
end
section
namespace Go.Proofs.YtfgnjndfnijjoaaGreatW.PrintWords
namespace Fl
open Ieee
def last (m : Nat) (e : Int) : Int := max (e + m.log2 - 52) (-1074)
def rung (m : Nat) (e : Int) : Nat := min ((last m e + 1074).toNat * 4503599627370496 + m * 2 ^ (e - last m e).toNat) 9218868437227405312
def zero (s : Bool) : Nat := if s then 9223372036854775808 else 0
def inf (s : Bool) : Nat := if s then 18442240474082181120 else 9218868437227405312
theorem mb : double.leastPlace = -1074 := by decide
theorem ov : double.binade = 4503599627370496 := by decide
theorem sY : double.fractionBits = 52 := rfl
theorem nB : Nat.log2 1 = 0 := by decide
theorem js {m : Nat} (hm : m ≠ 0) (h : m < 9007199254740992) : m.log2 ≤ 52 := by
 have : m.log2 < 53 := (Nat.log2_lt hm).2 (by simpa using h)
 omega
theorem CA {a b : Nat} (h : 2 ^ a = 2 ^ b) : a = b := by
 rcases Nat.lt_trichotomy a b with h1 | h1 | h1
 · have := Nat.pow_lt_pow_right (a := 2) (by omega) h1; omega
 · exact h1
 · have := Nat.pow_lt_pow_right (a := 2) (by omega) h1; omega
theorem iF {m : Nat} (hm : m ≠ 0) : ∀ j : Nat, (m * 2 ^ j).log2 = m.log2 + j
  | 0 => by rw [Nat.pow_zero, Nat.mul_one, Nat.add_zero]
  | j + 1 => by
    have hne : m * 2 ^ j ≠ 0 := Nat.mul_ne_zero hm (Nat.pos_iff_ne_zero.1 (Nat.pow_pos (by omega)))
    rw [show m * 2 ^ (j + 1) = 2 * (m * 2 ^ j) by rw [Nat.pow_succ]; ac_rfl, Nat.log2_two_mul hne, iF hm j]
    omega
theorem mN {m : Nat} (hm : m ≠ 0) (h : m < 9007199254740992) {e : Int} (he : -1074 ≤ e) : last m e ≤ e := by
 have := js hm h; unfold last
 omega
theorem zb (s : Bool) (n d : Nat) (hd : d ≤ n.log2 + 2) (hdiv : n % 2 ^ d = 0) : Toward.even.cut s n d = n / 2 ^ d := by
 unfold Toward.cut; rw [Nat.min_eq_left hd, Nat.one_shiftLeft]; simp only [hdiv]; have hp : 0 < 2 ^ d := Nat.pow_pos (by omega); have h1 : ¬ (2 ^ d < 2 * 0) := by omega
 have h2 : (2 ^ d == 2 * 0) = false := by
  rw [beq_eq_false_iff_ne]
  omega
 simp [h1, h2]
theorem ow (s : Bool) {m : Nat} (hm : m ≠ 0) (h : m < 9007199254740992) {e : Int} (he : -1074 ≤ e) (j : Nat) :
    double.nearest s (m * 2 ^ j) (e - j) = double.word s (rung m e) := by
 have hl := mN hm h he; have hL := js hm h; have hne : m * 2 ^ j ≠ 0 := Nat.mul_ne_zero hm (Nat.pos_iff_ne_zero.1 (Nat.pow_pos (by omega))); unfold Format.nearest; rw [if_neg hne]
 have hlast : max (e - (j : Int) + (m * 2 ^ j).log2 - double.fractionBits) double.leastPlace = last m e := by
  rw [iF hm, mb, sY]; unfold last
  push_cast
  omega
 simp only [hlast]; rw [mb, ov, lf]
 have hcut : Toward.even.cut s ((m * 2 ^ j) <<< (e - (j : Int) - last m e).toNat) (last m e - (e - (j : Int))).toNat = m * 2 ^ (e - last m e).toNat := by
  rcases Int.le_total (last m e) (e - j) with hc | hc
  ·
   rw [show (last m e - (e - (j : Int))).toNat = 0 by omega]; rw [zb _ _ _ (Nat.zero_le _) (Nat.mod_one _), Nat.pow_zero, Nat.div_one, Nat.shiftLeft_eq, Nat.mul_assoc, ← Nat.pow_add]
   congr 2
   omega
  ·
   obtain ⟨d, hd⟩ : ∃ d, d = (last m e - (e - (j : Int))).toNat := ⟨_, rfl⟩; rw [show (e - (j : Int) - last m e).toNat = 0 by omega, Nat.shiftLeft_zero, ← hd]; have hj : j = (e - last m e).toNat + d := by omega
   have hsplit : m * 2 ^ j = m * 2 ^ (e - last m e).toNat * 2 ^ d := by rw [Nat.mul_assoc, ← Nat.pow_add, ← hj]
   rw [zb _ _ _ (by rw [iF hm]; omega) (by rw [hsplit]; exact Nat.mul_mod_left _ _), hsplit, Nat.mul_div_cancel _ (Nat.pow_pos (by omega))]
 rw [hcut]; unfold rung; rw [show last m e - (-1074) = last m e + 1074 by omega]
theorem ze (s : Bool) {r : Nat} (hr : r < 9223372036854775808) : double.word s r / double.signWeight % 2 = s.toNat ∧ double.word s r % double.signWeight = r := by
 rw [fJ]; unfold Format.word; rw [fJ]
 cases s
 · rw [if_neg (by decide), Bool.toNat_false]; omega
 · rw [if_pos rfl, Bool.toNat_true]; omega
theorem bX (r : Nat) : double.word false r = r := by unfold Format.word; rw [if_neg (by decide)]
theorem gH (s : Bool) {m : Nat} (hm : m ≠ 0) (h : m < 9007199254740992) {e : Int} (he : -1074 ≤ e) (hE : e + m.log2 ≤ 1023) :
    double.read (double.word s (rung m e)) = .number s (m * 2 ^ (e - last m e).toNat) (e - ((e - last m e).toNat : Nat)) ∧ rung m e < 9218868437227405312 ∧ 0 < rung m e := by
 have hl := mN hm h he; have hL := js hm h; obtain ⟨K, hK⟩ : ∃ K, K = m * 2 ^ (e - last m e).toNat := ⟨_, rfl⟩; have hlog : K.log2 = m.log2 + (e - last m e).toNat := by rw [hK, iF hm]
 have hK0 : K ≠ 0 := by rw [hK]; exact Nat.mul_ne_zero hm (Nat.pos_iff_ne_zero.1 (Nat.pow_pos (by omega)))
 have hK53 : K < 9007199254740992 := by
  have : K.log2 < 53 := by rw [hlog]; unfold last; omega
  simpa using (Nat.log2_lt hK0).1 this
 have hnorm : last m e ≠ -1074 → 4503599627370496 ≤ K := by
  intro hne; have : 52 ≤ K.log2 := by rw [hlog]; unfold last at hne ⊢; omega
  simpa using (Nat.le_log2 hK0).1 this
 have hlast : last m e ≤ 971 := by unfold last; omega
 have hge : -1074 ≤ last m e := by unfold last; omega
 obtain ⟨q, hq⟩ : ∃ q : Nat, q = (last m e + 1074).toNat := ⟨_, rfl⟩
 have hrung : rung m e = q * 4503599627370496 + K := by
  unfold rung; rw [← hK, ← hq]; exact Nat.min_eq_left (by omega)
 have hr : rung m e < 9218868437227405312 := by omega
 obtain ⟨w1, w2⟩ := ze s (r := rung m e) (by omega); have hp : e - ((e - last m e).toNat : Nat) = last m e := by omega
 refine ⟨?_, hr, by omega⟩; unfold Format.read; simp only [w1, w2]; rw [ov, lf, mb, hp, ← hK]; have hs : (s.toNat == 1) = s := by cases s <;> rfl
 rw [hs]
 by_cases hsub : rung m e < 4503599627370496
 ·
  rw [if_pos hsub]; have hq0 : q = 0 := by omega
  have : last m e = -1074 := by omega
  rw [this]
  congr 1
  omega
 ·
  rw [if_neg hsub, if_pos hr]
  by_cases hq0 : q = 0
  ·
   have : last m e = -1074 := by omega
   have h1 : rung m e / 4503599627370496 = 1 := by omega
   rw [h1, this]
   congr 1
   omega
  ·
   have hKn := hnorm (by omega); have h1 : rung m e / 4503599627370496 = q + 1 := by omega
   rw [h1]
   congr 1
   · omega
   · omega
theorem mul_two (s : Bool) {m : Nat} (hm : m ≠ 0) (h : m < 9007199254740992) {e k : Int} (he : -1074 ≤ e) (hE : e + m.log2 ≤ 1023) (hk : -1074 ≤ k) (hk2 : k ≤ 1023) (hek : -1074 ≤ e + k) :
    double.mul (double.word s (rung m e)) (rung 1 k) = some (double.word s (rung m (e + k))) := by
 have h1 := (gH s hm h he hE).1; have h2 := (gH false (m := 1) (by omega) (by omega) hk (by rw [nB]; omega)).1; rw [bX] at h2; unfold Format.mul; rw [h1, h2]; simp only [Datum.product, Option.map_some, Bool.xor_false, Nat.one_mul]
 congr 1
 show double.nearest _ _ _ = _; have h3 := ow s hm h hek ((e - last m e).toNat + (k - last 1 k).toNat); rw [← h3]
 congr 1
 · rw [Nat.pow_add, Nat.mul_assoc]
 · push_cast; omega
theorem xE {m a b : Nat} (hm : m ≠ 0) : m * 2 ^ a < 2 ^ b ↔ m.log2 + a < b := by
 have h0 : m * 2 ^ a ≠ 0 := Nat.mul_ne_zero hm (Nat.pos_iff_ne_zero.1 (Nat.pow_pos (by omega))); rw [← Nat.log2_lt h0, iF hm]
theorem jG {m : Nat} (hm : m ≠ 0) (h : m < 9007199254740992) {e k : Int} (he : -1074 ≤ e) (hE : e + m.log2 ≤ 1023) (hk : -1074 ≤ k) (hk2 : k ≤ 1023) :
    ((double.order (rung m e) (rung 1 k) == some .lt) = decide (e + m.log2 < k)) ∧ ((double.order (rung m e) (rung 1 k) == some .gt || double.order (rung m e) (rung 1 k) == some .eq) = decide (k ≤ e + m.log2)) := by
 have h1 := (gH false hm h he hE).1; have h2 := (gH false (m := 1) (by omega) (by omega) hk (by rw [nB]; omega)).1; rw [bX] at h1 h2; unfold Format.order; rw [h1, h2]; simp only [Datum.order, signed, Bool.false_eq_true, if_false, Nat.one_mul]; obtain ⟨base, hb⟩ : ∃ base, base = min (e - ((e - last m e).toNat : Nat)) (k - ((k - last 1 k).toNat : Nat)) := ⟨_, rfl⟩; rw [← hb]
 have e1 : (m * 2 ^ (e - last m e).toNat) <<< (e - ((e - last m e).toNat : Nat) - base).toNat = m * 2 ^ (e - base).toNat := by
  rw [Nat.shiftLeft_eq, Nat.mul_assoc, ← Nat.pow_add]
  congr 2
  omega
 have e2 : (2 ^ (k - last 1 k).toNat) <<< (k - ((k - last 1 k).toNat : Nat) - base).toNat = 2 ^ (k - base).toNat := by
  rw [Nat.shiftLeft_eq, ← Nat.pow_add]
  congr 1
  have := mN (m := 1) (by omega) (by omega) hk
  omega
 rw [e1, e2]; have hlt := xE (a := (e - base).toNat) (b := (k - base).toNat) hm; have hl1 := mN hm h he; have hl2 := mN (m := 1) (by omega) (by omega) hk; have hbe : base ≤ e := by omega
 have hbk : base ≤ k := by omega
 obtain ⟨X, hX⟩ : ∃ X, X = m * 2 ^ (e - base).toNat := ⟨_, rfl⟩; obtain ⟨Y, hY⟩ : ∃ Y, Y = 2 ^ (k - base).toNat := ⟨_, rfl⟩; rw [← hX, ← hY] at hlt ⊢
 by_cases hc : e + m.log2 < k
 ·
  have hXY : X < Y := hlt.2 (by omega)
  have hcmp : compare (X : Int) (Y : Int) = .lt := by
   rw [Int.compare_eq_lt]; omega
  rw [hcmp]; refine ⟨?_, ?_⟩
  · rw [decide_eq_true hc]; rfl
  · rw [decide_eq_false (by omega)]; rfl
 ·
  have hXY : ¬ X < Y := fun h => hc (by have := hlt.1 h; omega)
  rw [decide_eq_false hc, decide_eq_true (by omega : k ≤ e + m.log2)]
  rcases Nat.lt_or_eq_of_le (Nat.le_of_not_lt hXY) with hg | hg
  ·
   have hcmp : compare (X : Int) (Y : Int) = .gt := by
    rw [Int.compare_eq_gt]; omega
   rw [hcmp]; exact ⟨rfl, rfl⟩
  ·
   have hcmp : compare (X : Int) (Y : Int) = .eq := by
    rw [Int.compare_eq_eq]; omega
   rw [hcmp]; exact ⟨rfl, rfl⟩
theorem classify (b : Nat) (hb : b < 18446744073709551616) :
    9218868437227405312 < b % 9223372036854775808 ∨ (∃ s, b = zero s) ∨ (∃ s, b = inf s) ∨
    ∃ s m, ∃ e : Int, m ≠ 0 ∧ m < 9007199254740992 ∧ -1074 ≤ e ∧ e + m.log2 ≤ 1023 ∧ b = double.word s (rung m e) ∧
      ((m < 4503599627370496 ∧ e = -1074 ∧ m.log2 ≤ 51 ∧ rung m e = m) ∨ (4503599627370496 ≤ m ∧ m.log2 = 52 ∧ e ≤ 971 ∧ (rung m e : Int) = (e + 1074) * 4503599627370496 + m)) := by
 obtain ⟨r, hr⟩ : ∃ r, r = b % 9223372036854775808 := ⟨_, rfl⟩
 have hword : ∃ s, b = double.word s r := by
  unfold Format.word; rw [fJ]
  by_cases h : b < 9223372036854775808
  · exact ⟨false, by rw [if_neg (by decide)]; omega⟩
  · exact ⟨true, by rw [if_pos rfl]; omega⟩
 obtain ⟨s, hs⟩ := hword
 rcases Nat.lt_trichotomy r 9218868437227405312 with h | h | h
 ·
  by_cases h0 : r = 0
  ·
   refine .inr (.inl ⟨s, ?_⟩); rw [hs, h0]
   cases s <;> rfl
  ·
   refine .inr (.inr (.inr ⟨s, ?_⟩))
   by_cases hsub : r < 4503599627370496
   ·
    have hl : r.log2 ≤ 51 := by
     have : r.log2 < 52 := (Nat.log2_lt h0).2 (by simpa using hsub)
     omega
    have hla : last r (-1074) = -1074 := by unfold last; omega
    have hru : rung r (-1074) = r := by
     unfold rung; rw [hla]; simp only [Int.sub_self, Int.toNat_zero, Nat.pow_zero, Nat.mul_one, show (-1074 + 1074 : Int).toNat = 0 from rfl, Nat.zero_mul, Nat.zero_add]; exact Nat.min_eq_left (by omega)
    exact ⟨r, -1074, h0, by omega, by omega, by omega, by rw [hru]; exact hs, .inl ⟨hsub, rfl, hl, hru⟩⟩
   ·
    obtain ⟨m, hm⟩ : ∃ m, m = 4503599627370496 + r % 4503599627370496 := ⟨_, rfl⟩; obtain ⟨e, he⟩ : ∃ e : Int, e = (r / 4503599627370496 : Nat) - 1075 := ⟨_, rfl⟩; have hm0 : m ≠ 0 := by omega
    have hl : m.log2 = 52 := by
     have h1 : 52 ≤ m.log2 := (Nat.le_log2 hm0).2 (by omega); have h2 : m.log2 < 53 := (Nat.log2_lt hm0).2 (by omega)
     omega
    have hla : last m e = e := by unfold last; omega
    have hru : rung m e = r := by
     unfold rung; rw [hla]; simp only [Int.sub_self, Int.toNat_zero, Nat.pow_zero, Nat.mul_one]; rw [Nat.min_eq_left (by omega)]
     omega
    refine ⟨m, e, hm0, by omega, by omega, by omega, by rw [hru]; exact hs, .inr ⟨by omega, hl, by omega, ?_⟩⟩; rw [hru]
    omega
 ·
  refine .inr (.inr (.inl ⟨s, ?_⟩)); rw [hs, h]
  cases s <;> rfl
 · exact .inl (by rw [← hr]; exact h)
theorem mT (s : Bool) {r : Nat} (h : r ≤ 9218868437227405312) : dD (double.word s r) = double.word s r := by
 have := (ze s (r := r) (by omega)).2; rw [fJ] at this; unfold dD; rw [this, if_neg (by omega)]
theorem vk (s : Bool) (r : Nat) : (double.word s r : Int) = (if s then 9223372036854775808 else 0) + (r : Int) := by
 unfold Format.word; rw [fJ]
 cases s <;> simp
theorem GM (s : Bool) {r : Nat} (h : r < 9223372036854775808) : Op.negFloat .f64 (double.word s r) = double.word (!s) r := by
 have hx : ∀ x : Nat, x < 9223372036854775808 → x ^^^ 9223372036854775808 = 9223372036854775808 + x := by
  intro x hx
  have h1 : x ^^^ 9223372036854775808 = x ||| 9223372036854775808 := by
   apply Nat.eq_of_testBit_eq
   intro i; rw [Nat.testBit_xor, Nat.testBit_or]; have : (9223372036854775808 : Nat) = 2 ^ 63 := by decide
   rw [this, Nat.testBit_two_pow]
   by_cases hi : 63 = i
   ·
    subst hi; rw [Nat.testBit_lt_two_pow (by omega)]
    simp
   · simp [hi]
  rw [h1]; have h2 := Nat.two_pow_add_eq_or_of_lt (i := 63) (b := x) (by omega) 1; rw [Nat.or_comm, show (9223372036854775808 : Nat) = 2 ^ 63 * 1 from rfl]; exact h2.symm
 unfold Op.negFloat; have hw : 2 ^ (FloatKind.f64.format.exponentBits + FloatKind.f64.format.fractionBits) = 9223372036854775808 := by decide
 rw [hw]; unfold Format.word; rw [fJ]
 cases s
 ·
  simp only [Bool.false_eq_true, if_false, Bool.not_false, if_true]; exact hx r h
 ·
  simp only [if_true, Bool.not_true, Bool.false_eq_true, if_false]; rw [← hx r h, Nat.xor_assoc, Nat.xor_self, Nat.xor_zero]
theorem vX {m : Nat} (hm : m ≠ 0) (h : m < 9007199254740992) {e : Int} (he : -1074 ≤ e) (hE : e + m.log2 ≤ 1023) (h0 : 0 ≤ e) :
    (double.read (rung m e)).toInt .zero = some ((m * 2 ^ e.toNat : Nat) : Int) := by
 have h1 := (gH false hm h he hE).1; rw [bX] at h1; rw [h1]; have hl := mN hm h he; obtain ⟨j, hj⟩ : ∃ j, j = (e - last m e).toNat := ⟨_, rfl⟩; rw [← hj]
 have hcut : Toward.zero.cut false ((m * 2 ^ j) <<< (e - (j : Int)).toNat) (-(e - (j : Int))).toNat = m * 2 ^ e.toNat := by
  rcases Int.le_total (j : Int) e with hc | hc
  ·
   rw [show (-(e - (j : Int))).toNat = 0 by omega, Nat.shiftLeft_eq, Nat.mul_assoc, ← Nat.pow_add, show j + (e - (j : Int)).toNat = e.toNat by omega]; unfold Toward.cut
   simp
  ·
   obtain ⟨d, hd⟩ : ∃ d, d = (-(e - (j : Int))).toNat := ⟨_, rfl⟩; rw [show (e - (j : Int)).toNat = 0 by omega, Nat.shiftLeft_zero, ← hd, show m * 2 ^ j = m * 2 ^ e.toNat * 2 ^ d by rw [Nat.mul_assoc, ← Nat.pow_add]; congr 2; omega]; have hne : m * 2 ^ e.toNat ≠ 0 := Nat.mul_ne_zero hm (Nat.pos_iff_ne_zero.1 (Nat.pow_pos (by omega))); unfold Toward.cut; rw [Nat.min_eq_left (by rw [iF hne]; omega), Nat.one_shiftLeft]; simp only [Nat.mul_div_cancel _ (Nat.pow_pos (show 0 < 2 by omega)), Bool.toNat_false, Nat.add_zero]
 simp only [Datum.toInt, Datum.integral, hcut, signed, Bool.false_eq_true, if_false, Nat.shiftLeft_zero]
theorem GN {K : Nat} (h : 4503599627370496 ≤ K) : (K : Int) + -((2 ^ 52 : Nat) : Int) = ((K - 4503599627370496 : Nat) : Int) := by
 rw [show (2 ^ 52 : Nat) = 4503599627370496 from rfl, Int.ofNat_sub h]
 omega
theorem J0 (D : Nat) (hD2 : D < 9007199254740992) : some (double.write (.number (if (D : Int) = 0 then false else decide ((D : Int) < 0)) (D : Int).natAbs (-52))) = some (if D = 0 then 0 else rung D (-52)) := by
 refine congrArg some ?_; show double.nearest _ _ _ = _
 by_cases hz : D = 0
 ·
  subst hz; unfold Format.nearest; rw [if_pos (by rfl), if_pos (by rfl)]; unfold Format.word; rw [if_neg (by simp), if_pos rfl]
 ·
  rw [if_neg hz]; have hneg : decide ((D : Int) < 0) = false := decide_eq_false (by omega); have hz' : ¬ (D : Int) = 0 := by omega
  rw [if_neg hz', hneg]; have := ow false (m := D) hz hD2 (e := -52) (by omega) 0; rw [bX, Nat.pow_zero, Nat.mul_one] at this; exact this
theorem sub_one {m : Nat} (hm : m ≠ 0) (h : m < 9007199254740992) (hL : m.log2 ≤ 52) :
    double.sub (rung m (-(m.log2 : Int))) (rung 1 0) = some (if m * 2 ^ (52 - m.log2) - 4503599627370496 = 0 then 0 else rung (m * 2 ^ (52 - m.log2) - 4503599627370496) (-52)) := by
 have h1 := (gH false hm h (e := -(m.log2 : Int)) (by omega) (by omega)).1; have h2 := (gH false (m := 1) (by omega) (by omega) (e := 0) (by omega) (by rw [nB]; omega)).1; rw [bX] at h1 h2; have hla : last m (-(m.log2 : Int)) = -52 := by unfold last; omega
 have hlb : last 1 0 = -52 := by unfold last; rw [nB]; omega
 rw [hla] at h1; rw [hlb] at h2; rw [show (-(m.log2 : Int) - -52).toNat = 52 - m.log2 by omega, show (-(m.log2 : Int)) - ((52 - m.log2 : Nat) : Int) = -52 by omega] at h1; rw [show ((0 : Int) - -52).toNat = 52 by omega, show (0 : Int) - (52 : Nat) = -52 by omega] at h2; unfold Format.sub; rw [h1, h2]; obtain ⟨K, hK⟩ : ∃ K, K = m * 2 ^ (52 - m.log2) := ⟨_, rfl⟩; rw [← hK]
 have hK1 : 4503599627370496 ≤ K := by
  have h0 : K ≠ 0 := by rw [hK]; exact Nat.mul_ne_zero hm (Nat.pos_iff_ne_zero.1 (Nat.pow_pos (by omega)))
  have : 52 ≤ K.log2 := by rw [hK, iF hm]; omega
  simpa using (Nat.le_log2 h0).1 this
 have hK2 : K < 9007199254740992 := by
  have h0 : K ≠ 0 := by omega
  have : K.log2 < 53 := by rw [hK, iF hm]; omega
  simpa using (Nat.log2_lt h0).1 this
 simp only [Datum.opposite, Datum.sum, Bool.not_false, Int.min_self, Int.sub_self, Int.toNat_zero, signed, Bool.false_eq_true, if_false, if_true, Nat.shiftLeft_zero, Bool.and_true, Option.map_some, Nat.one_mul]; have hd : (K : Int) + -((2 ^ 52 : Nat) : Int) = ((K - 4503599627370496 : Nat) : Int) := GN hK1; rw [hd]; obtain ⟨D, hD⟩ : ∃ D, D = K - 4503599627370496 := ⟨_, rfl⟩; have hD2 : D < 9007199254740992 := by omega
 rw [← hD]; clear hD hd hK1 hK2 hK; exact J0 D hD2
theorem nC (s : Bool) {m : Nat} (hm : m ≠ 0) (h : m < 9007199254740992) {e : Int} (he : -1074 ≤ e) (hE : e + m.log2 ≤ 1023) (x : Nat) (hx : x = double.word s (rung m e)) : double.order x x = some .eq := by
 rw [hx]; unfold Format.order; rw [(gH s hm h he hE).1]; simp only [Datum.order]; rw [(Int.compare_eq_eq).2 rfl]
theorem pK {b : Nat} (h : 9218868437227405312 < b % 9223372036854775808) (x : Nat) : double.order b x = none ∧ double.order x b = none := by
 have hr : ∃ s t, double.read b = .nan s t := by
  unfold Format.read; simp only [fJ, ov, lf]; rw [if_neg (by omega), if_neg (by omega), if_neg (by omega)]; exact ⟨_, _, rfl⟩
 obtain ⟨s, t, hr⟩ := hr; unfold Format.order; rw [hr]
 constructor
 · rfl
 · cases double.read x <;> rfl
theorem oI (s : Bool) {m : Nat} (hm : m ≠ 0) (h : m < 9007199254740992) {e : Int} (he : -1074 ≤ e) (hE : e + m.log2 ≤ 1023) :
    (double.order (double.word s (rung m e)) 0 == some .lt) = s ∧ (double.order (double.word s (rung m e)) 0 == some .eq) = false := by
 have h0 : double.read 0 = .number false 0 (-1074) := by decide
 unfold Format.order; rw [(gH s hm h he hE).1, h0]; simp only [Datum.order]; obtain ⟨base, hb⟩ : ∃ base, base = min (e - ((e - last m e).toNat : Nat)) (-1074 : Int) := ⟨_, rfl⟩; rw [← hb]; obtain ⟨X, hX⟩ : ∃ X : Nat, X = (m * 2 ^ (e - last m e).toNat) <<< (e - ((e - last m e).toNat : Nat) - base).toNat := ⟨_, rfl⟩
 have hX0 : 0 < X := by
  rw [hX, Nat.shiftLeft_eq]; exact Nat.mul_pos (Nat.mul_pos (by omega) (Nat.pow_pos (by omega))) (Nat.pow_pos (by omega))
 unfold signed; rw [← hX]; have h2 : ((0 <<< (-1074 - base).toNat : Nat) : Int) = 0 := by rw [Nat.zero_shiftLeft]; rfl
 simp only [h2, Bool.false_eq_true, if_false]
 cases s
 ·
  have hc : compare (X : Int) 0 = .gt := by rw [Int.compare_eq_gt]; omega
  simp only [Bool.false_eq_true, if_false, hc]
  decide
 ·
  have hc : compare (-(X : Int)) 0 = .lt := by rw [Int.compare_eq_lt]; omega
  simp only [if_true, hc]
  decide
theorem tq {m : Nat} (hm : m ≠ 0) (h : m < 9007199254740992) {e : Int} (he : -1074 ≤ e) (hE : e + m.log2 ≤ 1023) :
    (double.order (rung m e) (rung m (e + 1)) == some .eq) = false ∧ (double.order (rung m (e + 1)) (rung m e) == some .eq) = false := by
 have h1 := (gH false hm h he hE).1; rw [bX] at h1
 by_cases hE2 : e + 1 + m.log2 ≤ 1023
 ·
  have h2 := (gH false hm h (e := e + 1) (by omega) hE2).1; rw [bX] at h2; unfold Format.order; rw [h1, h2]; simp only [Datum.order, signed, Bool.false_eq_true, if_false]; have hl1 := mN hm h he; have hl2 := mN hm h (e := e + 1) (by omega)
  have key : ∀ base : Int, base ≤ e - ((e - last m e).toNat : Nat) → base ≤ e + 1 - ((e + 1 - last m (e + 1)).toNat : Nat) →
   (m * 2 ^ (e - last m e).toNat) <<< (e - ((e - last m e).toNat : Nat) - base).toNat ≠ (m * 2 ^ (e + 1 - last m (e + 1)).toNat) <<< (e + 1 - ((e + 1 - last m (e + 1)).toNat : Nat) - base).toNat := by
   intro base hb1 hb2 heq; rw [Nat.shiftLeft_eq, Nat.shiftLeft_eq, Nat.mul_assoc, Nat.mul_assoc, ← Nat.pow_add, ← Nat.pow_add] at heq; have := Nat.eq_of_mul_eq_mul_left (by omega) heq; have := CA this
   omega
  have hne : ∀ x y : Nat, x ≠ y → (some (compare (x : Int) (y : Int)) == some Ordering.eq) = false := by
   intro x y hxy; have : compare (x : Int) (y : Int) ≠ .eq := fun hc => hxy (by have := Int.compare_eq_eq.1 hc; omega)
   cases hcc : compare (x : Int) (y : Int) <;> simp_all
  exact ⟨hne _ _ (key _ (by omega) (by omega)), hne _ _ (fun hh => key _ (by omega) (by omega) hh.symm)⟩
 ·
  have hinf : rung m (e + 1) = 9218868437227405312 := by
   have hl2 : last m (e + 1) = e + 1 + m.log2 - 52 := by unfold last; omega
   have hL := js hm h; unfold rung; rw [hl2]
   apply Nat.min_eq_right
   have : 2046 ≤ (e + 1 + (m.log2 : Int) - 52 + 1074).toNat := by omega
   have hK : 4503599627370496 ≤ m * 2 ^ (e + 1 - (e + 1 + (m.log2 : Int) - 52)).toNat := by
    rw [show (e + 1 - (e + 1 + (m.log2 : Int) - 52)).toNat = 52 - m.log2 by omega]; have h0 : m * 2 ^ (52 - m.log2) ≠ 0 := Nat.mul_ne_zero hm (Nat.pos_iff_ne_zero.1 (Nat.pow_pos (by omega))); have : 52 ≤ (m * 2 ^ (52 - m.log2)).log2 := by rw [iF hm]; omega
    simpa using (Nat.le_log2 h0).1 this
   omega
  have h2 : double.read 9218868437227405312 = .infinity false := by decide
  unfold Format.order; rw [hinf, h1, h2]; exact ⟨rfl, rfl⟩
def R0 (D : Nat) (x : Int) : Nat := if D = 0 then 0 else rung D x
theorem FJ {D : Nat} (h : D < 9007199254740992) {x : Int} (hx : -1074 ≤ x) (hx2 : x ≤ 100) : double.mul (R0 D x) (rung 1 1) = some (R0 D (x + 1)) := by
 unfold R0
 by_cases hD : D = 0
 ·
  rw [if_pos hD, if_pos hD]; have h2 := (gH false (m := 1) (by omega) (by omega) (e := 1) (by omega) (by rw [nB]; omega)).1; rw [bX] at h2; have h0 : double.read 0 = .number false 0 (-1074) := by decide
  unfold Format.mul; rw [h0, h2]; simp only [Datum.product, Option.map_some, Nat.zero_mul, Bool.xor_false]; refine congrArg some ?_; show double.nearest _ _ _ = _; unfold Format.nearest; rw [if_pos rfl, bX]
 ·
  rw [if_neg hD, if_neg hD]; have hL := js hD h; have := mul_two false hD h (e := x) (k := 1) hx (by omega) (by omega) (by omega) (by omega)
  rwa [bX, bX] at this
theorem AF {D : Nat} (h : D < 9007199254740992) : (double.read (R0 D 0)).toInt .zero = some (D : Int) := by
 unfold R0
 by_cases hD : D = 0
 ·
  rw [if_pos hD, hD]
  decide
 ·
  rw [if_neg hD]; have hL := js hD h; have := vX hD h (e := 0) (by omega) (by omega) (by omega)
  simpa using this
theorem J1 {D : Nat} (h : D < 9007199254740992) {x k : Int} (hx : -1074 ≤ x) (hx2 : x ≤ 971) (hk : -1074 ≤ k) (hk2 : k ≤ 1023) (hxk : -1074 ≤ x + k) : double.mul (R0 D x) (rung 1 k) = some (R0 D (x + k)) := by
 unfold R0
 by_cases hD : D = 0
 ·
  rw [if_pos hD, if_pos hD]; have h2 := (gH false (m := 1) (by omega) (by omega) (e := k) (by omega) (by rw [nB]; omega)).1; rw [bX] at h2; have h0 : double.read 0 = .number false 0 (-1074) := by decide
  unfold Format.mul; rw [h0, h2]; simp only [Datum.product, Option.map_some, Nat.zero_mul, Bool.xor_false]; refine congrArg some ?_; show double.nearest _ _ _ = _; unfold Format.nearest; rw [if_pos rfl, bX]
 ·
  rw [if_neg hD, if_neg hD]; have hL := js hD h; have := mul_two false hD h (e := x) (k := k) hx (by omega) hk hk2 hxk
  rwa [bX, bX] at this
theorem CB {D : Nat} (h : D < 9007199254740992) : floatOfInt .f64 (D : Int) = R0 D 0 := by
 have e1 : floatOfInt .f64 (D : Int) = double.nearest (decide ((D : Int) < 0)) (D : Int).natAbs 0 := rfl; rw [e1, decide_eq_false (by omega), Int.natAbs_natCast]; unfold R0
 by_cases hD : D = 0
 ·
  rw [if_pos hD, hD]; unfold Format.nearest; rw [if_pos rfl, bX]
 ·
  rw [if_neg hD]; have := ow false hD h (e := 0) (by omega) 0; rw [bX, Nat.pow_zero, Nat.mul_one] at this; exact this
end Fl
end Go.Proofs.YtfgnjndfnijjoaaGreatW.PrintWords
end
section
namespace Go.Proofs.YtfgnjndfnijjoaaGreatW.PrintWords
open Go.RowKit
theorem qj : Fl.rung 1 (-1) = 4602678819172646912 := by kernel_rfl
theorem tr : Fl.rung 1 0 = 4607182418800017408 := by kernel_rfl
theorem kE : Fl.rung 1 1 = 4611686018427387904 := by kernel_rfl
theorem J2 : Fl.rung 1 52 = 4841369599423283200 := by kernel_rfl
theorem pL {P : Program} {W : World} {a : Act} {o : Oper} {t : TypeId} {p v : Operand} {g : Nat} {c c' : Array Value} (ho : o.op = .store t p v) (hp : a.eval p = .pointer (some ⟨g, 0, none⟩)) (hv : a.eval v = .agg c') {ct : TypeId}
    (hb : W.heap[g]? = some (.cells c ct (0, 0))) (hi : (P.info? t).map (·.size) = some c'.size) (hs : c.size = c'.size) (h1 : c'.all (·.oneCell') = true) :
    (execOp a.eval o).run P W = .ok .skip (W.setRow g c') := by
 unfold execOp; rw [ho]; simp only [hp, hv, Instr.storeAt, Instr.sureAddr, Sem.run_bind, Sem.run_pure, Result.andThen]; rw [run_storeVar_row W g ct t c c' hb hi hs h1]
theorem pM {P : Program} {W : World} {a : Act} {o : Oper} {t : TypeId} {x i : Operand} {v u : Value} {n : Int} (ho : o.op = .index t x i) (hx : a.eval x = v) (hi : a.eval i = .int .i64 n)
    (hr : (Instr.index t v (.int .i64 n)).run P W = .ok u W) : (execOp a.eval o).run P W = .ok (.value u) W := by
 unfold execOp; rw [ho]; simp only [hx, hi, Sem.run_bind, Sem.run_pure, Result.andThen, hr]
theorem pX {b K : Nat} (h : (Ieee.double.read b).toInt .zero = some (K : Int)) (hK : K < 18446744073709551616) : floatToIntVal .f64 b .u64 = some (K : Int) := by
 have hd : FloatKind.f64.decode b = Ieee.double.read b := rfl; unfold floatToIntVal; rw [hd, h]; simp only []; rw [if_pos (by constructor <;> (simp [IntKind.min, IntKind.max, IntKind.signed, IntKind.bits] <;> omega))]
theorem oW (P : Program) (W : World) (s : Bool) {r : Nat} (h : r < 9223372036854775808) : (Op.unary .neg (.float .f64 (Ieee.double.word s r))).run P W = .ok (.float .f64 (Ieee.double.word (!s) r)) W := by
 simp only [Op.unary, Fl.GM s h, Sem.run_pure]
theorem nD (i : Nat) (x y : Int) (hx0 : 0 ≤ x) (hx : x % 2 ^ i = 0) (hx1 : x < 18446744073709551616) (hy0 : 0 ≤ y) (hy : y < 2 ^ i) (hy1 : y < 18446744073709551616) : bits .or .u64 x y = x + y :=
  bits_join .u64 64 (by decide) (fun n h0 h1 => by rw [IntKind.wrap_u64]; omega) i x y hx0 hx (by omega) hy0 hy (by omega)
theorem vn (i : Nat) (hi : i ≤ 64) (x : Int) (h0 : 0 ≤ x) (h1 : x < 18446744073709551616) : bits .and .u64 x (2 ^ i - 1) = x % 2 ^ i :=
  bits_mask .u64 64 (by decide) (fun n h0 h1 => by rw [IntKind.wrap_u64]; omega) i hi x h0 (by omega)
theorem DA {W : World} {g : Nat} {c c' : Array Value} {t : TypeId} (hb : W.heap[g]? = some (.cells c t (0, 0))) : (W.setRow g c').heap[g]? = some (.cells c' t (0, 0)) := by
 simp [World.setRow, Array.getElem?_modify, hb]
theorem AG {W : World} {g B : Nat} {c : Array Value} (hg : B ≤ g) {w : World} (h : Below B w W) : Below B w (W.setRow g c) := by
 refine ⟨h.os, h.tape, h.output, by simpa [World.setRow] using h.size, fun i hi => ?_⟩; refine Eq.trans ?_ (h.block i hi); simp only [World.setRow, Array.getElem?_modify]; rw [if_neg (by omega)]
def rX (W : World) : Nat := (Question.nanBits .f64 0 0).cut (W.tape W.drawn (Question.nanBits .f64 0 0))
theorem zf (W : World) : rX W < 18446744073709551616 ∧ 9218868437227405312 < rX W % 9223372036854775808 := by
 unfold rX; simp only [Question.cut]; obtain ⟨x, hx⟩ : ∃ x, x = W.tape W.drawn (Question.nanBits .f64 0 0) := ⟨_, rfl⟩; rw [← hx]; obtain ⟨a, ha⟩ : ∃ a, a = x % 2 := ⟨_, rfl⟩; obtain ⟨c, hc⟩ : ∃ c, c = x / 2 % (2 ^ 52 - 1) := ⟨_, rfl⟩; have h1 : a < 2 := by rw [ha]; exact Nat.mod_lt _ (by omega)
 have h2 : c < 4503599627370495 := by rw [hc]; exact Nat.mod_lt _ (by omega)
 rw [← ha, ← hc]; clear ha hc hx; have h3 : a = 0 ∨ a = 1 := by omega
 rcases h3 with rfl | rfl <;> omega
theorem xF (P : Program) (t : TypeId) (W : World) : (binOp .quo t (.float .f64 0) (.float .f64 0)).run P W = .ok (.float .f64 (rX W)) W.drew := by
 have h : FloatKind.f64.format.div 0 0 = none := by decide
 simp only [binOp, Op.floatArith, h]
 rfl
theorem AH (W : World) : FB (rX W) 9221120237041090560 := ⟨(zf W).1, by unfold dD; rw [if_pos (zf W).2]; rfl⟩
theorem xG (s : Bool) {r : Nat} (h : r ≤ 9218868437227405312) : FB (Ieee.double.word s r) ((Ieee.double.word s r : Nat) : Int) := by
 refine ⟨?_, by rw [Fl.mT s h]⟩; unfold Ieee.Format.word; rw [fJ]
 split <;> omega
theorem vY (s : Bool) : FB (Fl.inf s) (Fl.inf s : Nat) := xG s (r := 9218868437227405312) (by omega)
theorem AJ (x : Nat) (hx : x < 18446744073709551616) : bits .and .u64 (x : Int) 9223372036854775808 = if 9223372036854775808 ≤ x then 9223372036854775808 else 0 := by
 have h1 := u64_and_nat x 9223372036854775808 hx (by omega)
 have h2 : x &&& 9223372036854775808 = (x.testBit 63).toNat * 9223372036854775808 := by
  rw [show (9223372036854775808 : Nat) = 2 ^ 63 from rfl]
  apply Nat.eq_of_testBit_eq
  intro i; rw [Nat.testBit_and, Nat.testBit_two_pow]
  by_cases hi : 63 = i
  ·
   subst hi
   cases hb : x.testBit 63
   · simp
   ·
    rw [Bool.toNat_true, Nat.one_mul, Nat.testBit_two_pow]
    simp
  ·
   rw [decide_eq_false hi, Bool.and_false]
   cases hb : x.testBit 63
   · simp
   · rw [Bool.toNat_true, Nat.one_mul, Nat.testBit_two_pow, decide_eq_false hi]
 rw [h2] at h1; rw [show ((9223372036854775808 : Nat) : Int) = 9223372036854775808 from rfl] at h1; rw [h1, Nat.testBit_eq_decide_div_mod_eq]
 by_cases h : 9223372036854775808 ≤ x
 ·
  rw [if_pos h, decide_eq_true (by omega)]
  rfl
 ·
  rw [if_neg h, decide_eq_false (by omega)]
  rfl
theorem NM (y : Int) (h0 : 0 ≤ y) (h1 : y < 4503599627370496) : bits .or .u64 y 4503599627370496 = y + 4503599627370496 := by
 obtain ⟨a, rfl⟩ : ∃ a : Nat, y = a := ⟨y.toNat, by omega⟩; have h2 := u64_or_nat a 4503599627370496 (by omega) (by omega); have h3 := Nat.two_pow_add_eq_or_of_lt (i := 52) (b := a) (by omega) 1; rw [show ((4503599627370496 : Nat) : Int) = 4503599627370496 from rfl] at h2; rw [h2, Nat.or_comm, show (4503599627370496 : Nat) = 2 ^ 52 * 1 from rfl, ← h3]
 omega
theorem CS (s : Bool) {r : Nat} (h : r < 9223372036854775808) : (9223372036854775808 ≤ Ieee.double.word s r) = (s = true) := by
 unfold Ieee.Format.word; rw [fJ]
 cases s
 · simp; omega
 · simp
end Go.Proofs.YtfgnjndfnijjoaaGreatW.PrintWords
end
section
namespace Go.Proofs.YtfgnjndfnijjoaaGreatW.PrintLast
open Go.Proofs.YtfgnjndfnijjoaaGreatW.PrintWords (Aside0)
def oX (md : Region.Mode) (o : Oper) : List Nat := (o.after.toList.filter (fun e => Region.binds md e)).map (fun e => e.on)
def xH (md : Region.Mode) (ops : Array Oper) (i : Nat) (oi : Oper) : List Nat := (List.range ops.size).filter fun j => !(j == i) && match ops[j]? with
  | some oj => !(oj.after.any (fun e => Region.binds md e && e.on == i) || oi.apart ops oj)
  | none => false
def gU (md : Region.Mode) (ops : Array Oper) : Bool × List (List Nat × List Nat) := (Region.noSelect ops, (List.range ops.size).map fun i => match ops[i]? with
  | some o => (oX md o, xH md ops i o)
  | none => ([], []))
def mO (T : List (List Nat × List Nat)) (l : List Bool) (i : Nat) : Bool := !l.getD i true && match T[i]? with
  | some r => r.1.all (fun j => l.getD j false)
  | none => false
def qk (T : List (List Nat × List Nat)) (l : List Bool) : List Nat := (List.range T.length).filter (mO T l)
def vZ (T : List (List Nat × List Nat)) (l : List Bool) (i : Nat) : Bool := match T[i]? with
  | some r => r.2.all (fun j => l.getD j true)
  | none => false
def uf (T : List (List Nat × List Nat)) (l : List Bool) : Bool := (List.range T.length).all fun j => !l.getD j false || match T[j]? with
  | some r => r.1.all (fun k => l.getD k false)
  | none => true
def ql (T : List (List Nat × List Nat)) (i : Nat) : Nat → Nat → Bool
  | 0, _ => false
  | fuel + 1, d => match T[d]? with
    | some r => r.1.any fun j => j == i || ql T i fuel j
    | none => false
def zI (T : List (List Nat × List Nat)) (l : List Bool) (ds : List Nat) (i : Nat) : Bool := ds.all fun d => l.getD d true || ql T i T.length d
section
variable {md : Region.Mode} {ops : Array Oper} {T : Bool × List (List Nat × List Nat)} {l l' li lj lk : Array Bool} {ds : List Nat} {i j k : Nat}
theorem gd (l : Array Bool) (j : Nat) (b : Bool) : l.getD j b = l.toList.getD j b := by simp [Array.getD_eq_getD_getElem?, List.getD_eq_getElem?_getD]
theorem zg (o : Oper) (p : Nat → Bool) : o.after.all (fun e => !Region.binds md e || p e.on) = (oX md o).all p := by
 unfold oX; rw [← Array.all_toList]
 induction o.after.toList with
 | nil => rfl
 | cons e r ih =>
  rw [List.all_cons, ih, List.filter_cons]
  cases h : Region.binds md e <;> simp
theorem FL (o : Oper) (p : Nat → Bool) : o.after.any (fun e => Region.binds md e && p e.on) = (oX md o).any p := by
 unfold oX; rw [← Array.any_toList]
 induction o.after.toList with
 | nil => rfl
 | cons e r ih =>
  rw [List.any_cons, ih, List.filter_cons]
  cases h : Region.binds md e <;> simp
theorem nO : (gU md ops).2.length = ops.size := by simp [gU]
theorem pN {o : Oper} (h : ops[i]? = some o) : (gU md ops).2[i]? = some (oX md o, xH md ops i o) := by
 have hi := (Array.getElem?_eq_some_iff.1 h).1; unfold gU; rw [List.getElem?_map, List.getElem?_range hi, Option.map_some, h]
theorem pO (h : ops[i]? = none) : (gU md ops).2[i]? = none := by
 have hi : ops.size ≤ i := Array.getElem?_eq_none_iff.1 h; exact List.getElem?_eq_none (by rw [nO]; exact hi)
theorem DB : mO (gU md ops).2 l.toList i = (!l.getD i true && ((ops[i]?).map (·.after.all fun e => !Region.binds md e || l.getD e.on false)).getD false) := by
 unfold mO; rw [gd]
 cases h : ops[i]? with
 | none => rw [pO h]; rfl
 | some o =>
  rw [pN h]; simp only [Option.map_some, Option.getD_some]; rw [← zg]; simp only [gd]
theorem ready_eq : Region.ready md ops l = qk (gU md ops).2 l.toList := by
 unfold Region.ready qk; rw [nO]; refine List.filter_congr (fun i _ => ?_); rw [DB]
theorem free_eq : Region.free md ops l i = vZ (gU md ops).2 l.toList i := by
 unfold Region.free vZ
 cases h : ops[i]? with
 | none => rw [pO h]
 | some oi =>
  rw [pN h]; simp only [xH]; rw [List.all_filter]
  congr 1
  funext j
  rw [gd]
  cases hj : ops[j]? with
  | none => cases (j == i) <;> cases (l.toList.getD j true) <;> simp
  | some oj =>
   cases (j == i) <;> cases (l.toList.getD j true) <;> cases (oj.after.any (fun e => Region.binds md e && e.on == i) || oi.apart ops oj) <;> simp_all
theorem FM : Region.qi md ops l = uf (gU md ops).2 l.toList := by
 unfold Region.qi uf; rw [nO]
 congr 1
 funext j
 rw [gd]
 cases h : ops[j]? with
 | none => rw [pO h]
 | some o =>
  rw [pN h]; simp only; rw [← zg]; simp only [gd]
theorem AK : ∀ (fuel d : Nat), Region.kC md ops i fuel d = ql (gU md ops).2 i fuel d
  | 0, _ => rfl
  | fuel + 1, d => by
    unfold Region.kC ql
    cases h : ops[d]? with
    | none => rw [pO h]
    | some o =>
      rw [pN h]
      simp only
      rw [← FL]
      congr 1
      funext e
      rw [AK fuel]
theorem J3 : Region.zH md ops l ds i = zI (gU md ops).2 l.toList ds i := by
 unfold Region.zH zI; rw [nO]
 congr 1
 funext d
 rw [gd, AK]
theorem uL (h : mO T.2 l.toList i = true) (hT : gU md ops = T) : (Region.ready md ops l).contains i = true := by
 subst hT; rw [ready_eq]; unfold qk; rw [List.contains_iff_mem, List.mem_filter, List.mem_range]; refine ⟨?_, h⟩; unfold mO at h; rw [Bool.and_eq_true] at h
 cases hq : (gU md ops).2[i]? with
 | none => rw [hq] at h; simp at h
 | some r => exact (List.getElem?_eq_some_iff.1 hq).1
theorem tu (h : (l.toList.set i true == l'.toList) = true) : (l.setIfInBounds i true == l') = true := by
 rw [beq_iff_eq] at h ⊢
 apply Array.ext'
 rw [Array.toList_setIfInBounds]; exact h
def GP (T : Bool × List (List Nat × List Nat)) (l l' : List Bool) (i : Nat) : Bool := T.1 && vZ T.2 l i && mO T.2 l i && (l.set i true == l')
theorem qm (hT : gU md ops = T) (h : GP T l.toList l'.toList i = true) : Dx md ops l l' i = true := by
 simp only [GP, Bool.and_eq_true] at h; obtain ⟨⟨⟨h1, h2⟩, h3⟩, h4⟩ := h; have h5 := uL h3 hT; have h6 := tu h4; subst hT; simp only [Dx, Bool.and_eq_true]; exact ⟨⟨⟨h1, by rw [free_eq]; exact h2⟩, h5⟩, h6⟩
def DC (T : Bool × List (List Nat × List Nat)) (ds : List Nat) (l l' : List Bool) (i : Nat) : Bool := T.1 && vZ T.2 l i && mO T.2 l i && uf T.2 l && zI T.2 l ds i && (l.set i true == l')
theorem J4 (hT : gU md ops = T) (h : DC T ds l.toList l'.toList i = true) : vT md ops ds l l' i = true := by
 simp only [DC, Bool.and_eq_true] at h; obtain ⟨⟨⟨⟨⟨h1, h2⟩, h3⟩, h4⟩, h5⟩, h6⟩ := h; have h7 := uL h3 hT; have h8 := tu h6; subst hT; simp only [vT, Bool.and_eq_true]; exact ⟨⟨⟨⟨⟨h1, by rw [free_eq]; exact h2⟩, h7⟩, by rw [FM]; exact h4⟩, by rw [J3]; exact h5⟩, h8⟩
theorem fP (hT : gU md ops = T) (h : (qk T.2 l.toList == [i] && l.toList.set i true == l'.toList) = true) : vU md ops l l' i = true := by
 simp only [Bool.and_eq_true] at h; obtain ⟨h1, h2⟩ := h; subst hT; simp only [vU, Bool.and_eq_true]; exact ⟨by rw [ready_eq]; exact h1, tu h2⟩
theorem qo (hT : gU md ops = T) (h : (qk T.2 l.toList == [i, j] && l.toList.set i true == li.toList && l.toList.set j true == lj.toList) = true) : (Region.ready md ops l == [i, j] && l.setIfInBounds i true == li && l.setIfInBounds j true == lj) = true := by
 simp only [Bool.and_eq_true] at h ⊢; obtain ⟨⟨h1, h2⟩, h3⟩ := h; subst hT; exact ⟨⟨by rw [ready_eq]; exact h1, tu h2⟩, tu h3⟩
theorem iS (hT : gU md ops = T) (h : (qk T.2 l.toList == []) = true) : (Region.ready md ops l == []) = true := by
 subst hT; rw [ready_eq]; exact h
def upM (B : List Nat) (d : Nat) : List Nat → Nat
  | [] => 0
  | n :: r => (2 ^ n ||| (if n < d then B.getD n 0 else 0)) ||| upM B d r
def iT (T : List (List Nat × List Nat)) (B : List Nat) : Bool := (List.range T.length).all fun d => match T[d]? with
  | some r => (B.getD d 0 ||| upM B d r.1) == upM B d r.1
  | none => false
theorem CT {B : List Nat} {d i : Nat} : ∀ {ns : List Nat}, (upM B d ns).testBit i = true → ∃ n ∈ ns, n = i ∨ (n < d ∧ (B.getD n 0).testBit i = true)
  | [], h => by simp [upM] at h
  | n :: r, h => by
    unfold upM at h
    rw [Nat.testBit_or, Nat.testBit_or, Bool.or_eq_true, Bool.or_eq_true] at h
    rcases h with (h | h) | h
    · rw [Nat.testBit_two_pow] at h
      exact ⟨n, List.mem_cons_self, .inl (by simpa using h)⟩
    · by_cases hn : n < d
      · rw [if_pos hn] at h
        exact ⟨n, List.mem_cons_self, .inr ⟨hn, h⟩⟩
      · rw [if_neg hn] at h
        simp at h
    · obtain ⟨m, hm, h2⟩ := CT h
      exact ⟨m, List.mem_cons_of_mem _ hm, h2⟩
theorem zh {T : List (List Nat × List Nat)} {B : List Nat} (hB : iT T B = true) : ∀ (fuel d : Nat), d < fuel → d < T.length → (B.getD d 0).testBit i = true → ql T i fuel d = true
  | 0, d, h, _, _ => by omega
  | fuel + 1, d, h, hd, hb => by
    have h1 := List.all_eq_true.1 hB d (List.mem_range.2 hd)
    cases hr : T[d]? with
    | none => rw [hr] at h1; simp at h1
    | some r =>
      rw [hr] at h1
      simp only [beq_iff_eq] at h1
      have h2 : (upM B d r.1).testBit i = true := by rw [← h1, Nat.testBit_or, hb, Bool.true_or]
      obtain ⟨n, hn, h3⟩ := CT h2
      unfold ql
      rw [hr]
      simp only
      rw [List.any_eq_true]
      refine ⟨n, hn, ?_⟩
      rcases h3 with rfl | ⟨h4, h5⟩
      · simp
      · rw [zh hB fuel n (by omega) (by omega) h5, Bool.or_true]
def Jg (T : List (List Nat × List Nat)) (B : List Nat) (l : List Bool) (ds : List Nat) (i : Nat) : Bool := ds.all fun d => l.getD d true || (decide (d < T.length) && (B.getD d 0).testBit i)
def Jh (T : Bool × List (List Nat × List Nat)) (B : List Nat) (ds : List Nat) (l l' : List Bool) (i : Nat) : Bool := T.1 && vZ T.2 l i && mO T.2 l i && uf T.2 l && Jg T.2 B l ds i && (l.set i true == l')
theorem dN {B : List Nat} (hT : gU md ops = T) (hB : iT T.2 B = true) (h : Jh T B ds l.toList l'.toList i = true) : vT md ops ds l l' i = true := by
 refine J4 hT ?_; simp only [Jh, DC, Bool.and_eq_true] at h ⊢; obtain ⟨⟨⟨⟨⟨h1, h2⟩, h3⟩, h4⟩, h5⟩, h6⟩ := h; refine ⟨⟨⟨⟨⟨h1, h2⟩, h3⟩, h4⟩, ?_⟩, h6⟩; unfold Jg at h5; unfold zI; rw [List.all_eq_true] at h5 ⊢; intro d hd; have h7 := h5 d hd; rw [Bool.or_eq_true, Bool.and_eq_true, decide_eq_true_eq] at h7
 rcases h7 with h7 | ⟨h8, h9⟩
 · rw [h7, Bool.true_or]
 · rw [zh hB _ d h8 h8 h9, Bool.or_true]
theorem gR {P : Program} {Q : Exit → Act → World → Prop} {S : World → Prop} {n : Nat} {a : Act} {w : World} {B : List Nat} (hT : gU md ops = T) (hB : iT T.2 B = true) (h : Aside0 (gU md ops = T) → Aside0 (iT T.2 B = true) → cN P md ops Q S ds n l a w) : cN P md ops Q S ds n l a w := h ⟨hT⟩ ⟨hB⟩
end
def nP : Code → Nat → Option (Array Oper)
  | .region id ops _, k => if id == k then some ops else none
  | .seq a b, k => match nP a k with
    | some o => some o
    | none => nP b k
  | .cond _ a b, k => match nP a k with
    | some o => some o
    | none => nP b k
  | .block _ c, k => nP c k
  | .loop c, k => nP c k
  | .scope c, k => nP c k
  | .rangeFunc _ _ a b, k => match nP a k with
    | some o => some o
    | none => nP b k
  | _, _ => none
def opsOf (f : Func) (k : Nat) : Array Oper := ((f.body.bind fun c => nP c k)).getD #[]
end Go.Proofs.YtfgnjndfnijjoaaGreatW.PrintLast
end
section
namespace Go.Proofs.YtfgnjndfnijjoaaGreatW.PrintWords
open Go.RowKit Go.Proofs.YtfgnjndfnijjoaaGreatW.PrintLast
set_option linter.unusedVariables false
theorem rz {p q : Prop} (h : q) (t : q → p := by intro h_; (with_reducible repeat (first | apply Kd.ay | apply Kd.aC | apply Kd.ax)); exact h_) : p := t h
theorem hz {p q : Prop} (h : q) (t : q → p := by intro h_; (repeat (first | (with_reducible first | exact h_ | apply aH | apply aG | apply bw) | exact h_)); (first | done | fail)) : p := t h
theorem hz1 {p q g : Prop} (h : q) (k : g) (t : q → g → p := by intro h_ g_; (repeat (first | (with_reducible first | exact h_ | apply aH | apply aG | apply bw | refine bM ?_ g_) | exact h_)); (first | done | fail)) : p := t h k
theorem kz {p q : Prop} (h : q) (t : q → p := by intro h_; (with_reducible repeat (first | refine bz ?_ _ | refine cQ ?_ | refine bx ?_ _)); exact h_) : p := t h
theorem mz {p : Prop} (t : p := by (try simp only [List.map_toArray, List.map_cons, List.map_nil]); first | done | rfl | (simp only [List.length_drop, List.length_take]; rfl)) : p := t
theorem ez {p : Prop} (t : p := by first | rfl | (simp [gX, gY] <;> rfl) | (simp [*, gX, gY] <;> rfl)) : p := t
theorem nz {p : Prop} (t : p := by first | exact Kd.iE _ _ _ _ _ | exact Kd.NK _ _ _ _ _ | exact Kd.NL _ _ _ _ _ | exact Kd.NF _ _ _ _ _ | exact Kd.NI _ _ _ _ _) : p := t
theorem sz {p : Prop} (t : p := by first | rfl | (simp; done) | (simp [*]; done)) : p := t
theorem fz {p : Prop} (t : p := by first | assumption | exact vW _ _ rfl | exact LB _ | simpa using (by assumption)) : p := t
theorem az {p : Prop} (t : p := by first | (with_reducible assumption) | assumption) : p := t
theorem cz {w W : World} {a : Addr} {v : Value} (hb : Below w.heap.size w W) (h : w.cell? a = some v) : W.cell? a = some v := (hb.cell (World.block_lt_of_cell? w _ h)).trans h
theorem am {p : Prop} (h : p) : Aside0 p := ⟨h⟩
theorem sb {w W W2 W1 : World} (h : Aside0 (Below w.heap.size w W)) (hb : Below W1.heap.size W1 W2) (t : Below w.heap.size w W → Below w.heap.size w W1 := by intro h_; (repeat (first | (with_reducible first | exact h_ | apply aH | apply aG | apply bw) | exact h_)); (first | done | fail)) : Aside0 (Below w.heap.size w W2) := ⟨aM (t h.out) hb⟩
theorem rb {α : Type} {d : Kd α} {e b : Nat} {ok : Nat → Prop} {v : Value} {xs : List α} {W W1 W2 : World} (h : Aside0 (d.R e W b ok v xs)) (hb : Below W1.heap.size W1 W2) (t : d.R e W b ok v xs → d.R e W1 b ok v xs := by intro h_; (with_reducible repeat (first | apply Kd.ay | apply Kd.aC | apply Kd.ax)); exact h_) : Aside0 (d.R e W2 b ok v xs) := ⟨Kd.gG (t h.out) hb⟩
theorem ifz {α : Type} {P : Prop} [Decidable P] {x : Option α} {r : α} (h : (if P then x else none) = some r) : P ∧ x = some r := by
 by_cases c : P
 · exact ⟨c, by rwa [if_pos c] at h⟩
 · rw [if_neg c] at h; exact absurd h (by simp)
theorem ifn {α : Type} {P : Prop} [Decidable P] {x : Option α} {r : α} (h : (if P then none else x) = some r) : ¬ P ∧ x = some r := by
 by_cases c : P
 · rw [if_pos c] at h; exact absurd h (by simp)
 · exact ⟨c, by rwa [if_neg c] at h⟩
theorem bnz {α β : Type} {o : Option α} {f : α → Option β} {r : β} (h : o.bind f = some r) : ∃ a, Aside0 (o = some a) ∧ f a = some r := by
 obtain ⟨a, h1, h2⟩ := Option.bind_eq_some_iff.mp h; exact ⟨a, ⟨h1⟩, h2⟩
theorem bsz {α β : Type} {x : α} {f : α → Option β} {r : β} (h : (some x).bind f = some r) : ∃ a, Aside0 (a = x) ∧ f a = some r := ⟨x, ⟨rfl⟩, h⟩
def dn (n m : Nat) : Array Bool := ((List.range n).map fun i => m.testBit i).toArray
section
variable {P : Program} {md : Region.Mode} {ops : Array Oper} {Q : Exit → Act → World → Prop} {S : World → Prop} {ds : List Nat} {T : Bool × List (List Nat × List Nat)}
theorem pz {oi : Oper} {v : Value} {fuel : Nat} {l : Array Bool} {a a' : Act} {w : World} (i : Nat) (n : Tmp) (l' : Array Bool) (hi : ops[i]? = some oi) (hN : oi.dst = some n) (HT : Aside0 (gU md ops = T)) (h : cN P md ops Q S ds fuel l' a' w)
    (hc : GP T l.toList l'.toList i = true := by kernel_rfl) (hQ : ∀ c a w, Q (.panic c) (a.put oi.dst v) w → Q (.panic c) a w := by exact fun _ _ _ h => h)
    (hy : Yields P ops oi v a := by (refine Or.inl ⟨by rfl, ?_⟩; intro w'; go_simp; with_reducible rfl)) (ha : a.put (some n) v = a' := by (simp only [Act.put, List.setIfInBounds_toArray, List.set_cons_zero, List.set_cons_succ, bN, bR]; rfl)) : cN P md ops Q S ds (fuel + 1) l a w :=
  fq l' hi hN (qm HT.out hc) hQ hy ha h
end
end Go.Proofs.YtfgnjndfnijjoaaGreatW.PrintWords
end
namespace Go.Proofs.YtfgnjndfnijjoaaGreatW.PrintLast
section
end
end Go.Proofs.YtfgnjndfnijjoaaGreatW.PrintLast
namespace Go.Proofs.YtfgnjndfnijjoaaGreatW.PrintWords
namespace Kd
section
end
end Kd
end Go.Proofs.YtfgnjndfnijjoaaGreatW.PrintWords
namespace Go.Proofs.YtfgnjndfnijjoaaGreatW.PrintWords
section
end
namespace Kd
section
end
end Kd
end Go.Proofs.YtfgnjndfnijjoaaGreatW.PrintWords
section
namespace Go.Proofs.YtfgnjndfnijjoaaGreatW.PrintWords
open Go.RowKit
section
variable {P : Program} {d : Nat} {xs ys : Array Value} {f : Field} {fs : List Field} {a b : Value} {r s : Bool} {w : World}
theorem AL (hn : (f.name == "_") = false) (ha : (part f.type xs f.offset).run P w = .ok a w) (hb : (part f.type ys f.offset).run P w = .ok b w) (he : (Op.equalIn d f.type a b).run P w = .ok r w) : (Op.eqFields d xs ys [f]).run P w = .ok r w := by
 have hn' : f.name ≠ "_" := by simpa using hn
 simp only [Op.eqFields, if_pos hn', Sem.run_bind, ha, hb, he, Result.andThen_ok]
 cases r <;> simp
theorem AO (hn : (f.name == "_") = false) (ha : (part f.type xs f.offset).run P w = .ok a w) (hb : (part f.type ys f.offset).run P w = .ok b w) (he : (Op.equalIn d f.type a b).run P w = .ok r w) (hr : (Op.eqFields d xs ys fs).run P w = .ok s w) : (Op.eqFields d xs ys (f :: fs)).run P w = .ok (r && s) w := by
 have hn' : f.name ≠ "_" := by simpa using hn
 rw [Op.eqFields]; simp only [if_pos hn', Sem.run_bind, ha, hb, he, Result.andThen_ok]
 cases r
 · simp
 · simpa using hr
theorem FN {t : TypeId} {fs : Array Field} (hu : P.underlying t = some (.struct fs)) (hp : P.stoodInHeld t = false) (h : (Op.eqFields d xs ys fs.toList).run P w = .ok r w) : (Op.equalIn (d + 1) t (.agg xs) (.agg ys)).run P w = .ok r w := by
 have hf : P.fieldsOf t = fs := by simp [Program.fieldsOf, hu]
 rw [run_equalIn_struct (P := P) w d t xs ys (by rw [hf]; exact hu) hp, hf]; exact h
end
end Go.Proofs.YtfgnjndfnijjoaaGreatW.PrintWords
end
section
namespace Go.Proofs.YtfgnjndfnijjoaaGreatW.PrintWords
theorem bK.one {α : Type} {R : α → List Value → Prop} {ps : List α} {cs : List Value} {p : α} {v : Value} (hp : R p [v]) (h : bK R 1 ps cs) : bK R 1 (p :: ps) (v :: cs) := by
 refine ⟨by simp [h.1], fun j q hq => ?_⟩
 cases j with
 | zero =>
  simp only [List.getElem?_cons_zero, Option.some.injEq] at hq; subst hq
  simpa using hp
 | succ j =>
  simp only [List.getElem?_cons_succ] at hq; have h1 := h.2 j q hq
  simpa [Nat.mul_one] using h1
theorem bK.front {α : Type} {R : α → List Value → Prop} {size : Nat} {ps : List α} {cs c all : List Value} {p : α} (hp : R p c) (hc : c.length = size) (h : bK R size ps cs) (ha : c ++ cs = all) : bK R size (p :: ps) all := by
 subst ha; refine ⟨by rw [List.length_append, hc, h.1, List.length_cons, Nat.succ_mul, Nat.add_comm], fun j q hq => ?_⟩
 cases j with
 | zero =>
  simp only [List.getElem?_cons_zero, Option.some.injEq] at hq; subst hq; rw [Nat.zero_mul, List.drop_zero, List.take_append_of_le_length (by omega), List.take_of_length_le (by omega)]; exact hp
 | succ j =>
  simp only [List.getElem?_cons_succ] at hq; have h1 := h.2 j q hq; rw [Nat.succ_mul, List.drop_append, List.drop_of_length_le (by rw [hc]; exact Nat.le_add_left _ _), List.nil_append, hc, Nat.add_sub_cancel]; exact h1
theorem bK.c2 {α : Type} {R : α → List Value → Prop} {ps : List α} {cs : List Value} {p : α} {va vb : Value} (hp : R p [va, vb]) (h : bK R 2 ps cs) : bK R 2 (p :: ps) (va :: vb :: cs) := bK.front hp rfl h rfl
theorem bK.c3 {α : Type} {R : α → List Value → Prop} {ps : List α} {cs : List Value} {p : α} {va vb vc : Value} (hp : R p [va, vb, vc]) (h : bK R 3 ps cs) : bK R 3 (p :: ps) (va :: vb :: vc :: cs) := bK.front hp rfl h rfl
theorem bK.c4 {α : Type} {R : α → List Value → Prop} {ps : List α} {cs : List Value} {p : α} {va vb vc vd : Value} (hp : R p [va, vb, vc, vd]) (h : bK R 4 ps cs) : bK R 4 (p :: ps) (va :: vb :: vc :: vd :: cs) := bK.front hp rfl h rfl
theorem bK.c5 {α : Type} {R : α → List Value → Prop} {ps : List α} {cs : List Value} {p : α} {va vb vc vd ve : Value} (hp : R p [va, vb, vc, vd, ve]) (h : bK R 5 ps cs) : bK R 5 (p :: ps) (va :: vb :: vc :: vd :: ve :: cs) := bK.front hp rfl h rfl
theorem bK.c6 {α : Type} {R : α → List Value → Prop} {ps : List α} {cs : List Value} {p : α} {va vb vc vd ve vf : Value} (hp : R p [va, vb, vc, vd, ve, vf]) (h : bK R 6 ps cs) : bK R 6 (p :: ps) (va :: vb :: vc :: vd :: ve :: vf :: cs) := bK.front hp rfl h rfl
theorem bK.c7 {α : Type} {R : α → List Value → Prop} {ps : List α} {cs : List Value} {p : α} {va vb vc vd ve vf vg : Value} (hp : R p [va, vb, vc, vd, ve, vf, vg]) (h : bK R 7 ps cs) : bK R 7 (p :: ps) (va :: vb :: vc :: vd :: ve :: vf :: vg :: cs) := bK.front hp rfl h rfl
theorem bK.c8 {α : Type} {R : α → List Value → Prop} {ps : List α} {cs : List Value} {p : α} {va vb vc vd ve vf vg vh : Value} (hp : R p [va, vb, vc, vd, ve, vf, vg, vh]) (h : bK R 8 ps cs) : bK R 8 (p :: ps) (va :: vb :: vc :: vd :: ve :: vf :: vg :: vh :: cs) := bK.front hp rfl h rfl
theorem bK.c9 {α : Type} {R : α → List Value → Prop} {ps : List α} {cs : List Value} {p : α} {va vb vc vd ve vf vg vh vi : Value} (hp : R p [va, vb, vc, vd, ve, vf, vg, vh, vi]) (h : bK R 9 ps cs) : bK R 9 (p :: ps) (va :: vb :: vc :: vd :: ve :: vf :: vg :: vh :: vi :: cs) := bK.front hp rfl h rfl
theorem bK.c10 {α : Type} {R : α → List Value → Prop} {ps : List α} {cs : List Value} {p : α} {va vb vc vd ve vf vg vh vi vj : Value} (hp : R p [va, vb, vc, vd, ve, vf, vg, vh, vi, vj]) (h : bK R 10 ps cs) : bK R 10 (p :: ps) (va :: vb :: vc :: vd :: ve :: vf :: vg :: vh :: vi :: vj :: cs) := bK.front hp rfl h rfl
end Go.Proofs.YtfgnjndfnijjoaaGreatW.PrintWords
end
section
namespace Go.Proofs.YtfgnjndfnijjoaaGreatW.PrintLast
def up (b : Nat → Bool) (i : Nat) : Nat → Bool := fun j => if j = i then true else b j
section
variable {P : Program} {ops : Array Oper} {Q : Exit → Act → World → Prop} {md : Region.Mode} {T : Bool × List (List Nat × List Nat)} {B : List Nat} {O : List Nat} {b : Nat → Bool} {i j n : Nat}
end
end Go.Proofs.YtfgnjndfnijjoaaGreatW.PrintLast
end
namespace Go.Proofs.YtfgnjndfnijjoaaGreatW.PrintWords
end Go.Proofs.YtfgnjndfnijjoaaGreatW.PrintWords
namespace Go.Proofs.YtfgnjndfnijjoaaGreatW.PrintLast
section
end
end Go.Proofs.YtfgnjndfnijjoaaGreatW.PrintLast
section
namespace Go.Proofs.YtfgnjndfnijjoaaGreatW.PrintWords
open Go.RowKit
section
variable {P : Program} {ops : Array Oper} {rest : List Oper} {o : Oper} {a : Act} {Q : Exit → Act → World → Prop} {W : World}
theorem iq (hw : Region.wanted o (yielded ops a.tmps) = true) (h : wpList P ops Q ({ o with guard := none } :: rest) a W) : wpList P ops Q (o :: rest) a W := by
  have h1 : Region.wanted { o with guard := none } (yielded ops a.tmps) = true := rfl
  unfold wpList at h ⊢
  rw [if_pos h1] at h
  rw [if_pos hw]
  exact h
end
end Go.Proofs.YtfgnjndfnijjoaaGreatW.PrintWords
end
