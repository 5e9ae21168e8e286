/- Part 6 of what OplogRanks stands on: merged by a program of this session out of its texts. -/
import Derived.Laws.BitsAllLaws
import Derived.Test.YtfgnjndfnijjoaaGreatCOplogRanks5
section
namespace Go.Proofs.YtfgnjndfnijjoaaGreat.Print
open Go.RowKit Go.Proofs.YtfgnjndfnijjoaaGreatW.PrintWords Go.Proofs.YtfgnjndfnijjoaaGreatW.PrintLast Go.Proofs.YtfgnjndfnijjoaaGreatW.PrintMore
attribute [local go_sem] dJ dK eF eG cZ dc dL dM
attribute [local go_sem] bH
set_option linter.unusedVariables false
set_option linter.unusedSimpArgs false
def gq.l0 : Nat → Int → List Int → Int → Int → Option (ByteArray)
 | 0, _, _, _, _ => none
 | k + 1, x0, x3, x7, x8 => if x8 < x7 then (if 0 ≤ (wrap64 (8 * x8)) then (if 0 ≤ x8 then (if x8 < (x3.length : Int) then (gq.l0 k x0 (x3.set (x8 : Int).toNat ((shr .u64 x0 (wrap64 (8 * x8))) % 256)) x7 (wrap64 (x8 + 1))) else (none)) else (none)) else (none)) else (some (strOfNums x3))
def gq.f (k : Nat) (a0 : Int) : Option (ByteArray) := (some (List.replicate 8 0 : List Int)).bind fun M9 => (gq.l0 k a0 M9 (M9.length : Int) 0)
theorem gq.cF : ∀ k, (∀ y0 y1 y2 y3, LeO (gq.l0 k y0 y1 y2 y3) (gq.l0 (k + 1) y0 y1 y2 y3))
 | 0 => fun _ _ _ _ r h => by simp [gq.l0] at h
 | k + 1 => by
  have ih0 := gq.cF k
  ·
   intro y0 y1 y2 y3; unfold gq.l0
   repeat' first
   | (with_reducible exact ih0 _ _ _ _)
   | (with_reducible exact LeO.refl _)
   | (with_reducible exact LeO.none _)
   | (with_reducible refine LeO.ite ?_ ?_)
   | (with_reducible refine LeO.bind ?_ (fun _ => ?_))
theorem gq.mono : ∀ a0 k, LeO (gq.f k a0) (gq.f (k + 1) a0) := by
 intro a0 k; have ih0 := gq.cF k; unfold gq.f
 repeat' first
  | (with_reducible exact ih0 _ _ _ _)
  | (with_reducible exact LeO.refl _)
  | (with_reducible exact LeO.none _)
  | (with_reducible refine LeO.ite ?_ ?_)
  | (with_reducible refine LeO.bind ?_ (fun _ => ?_))
def gW.g (k : Nat) : List Int → ByteArray → Option ByteArray
  | [], acc => some acc
  | x :: xs, acc => (bL.f k (IntKind.u64.wrap x)).bind fun a => if acc.size + a.size ≤ 140737488355328 then gW.g k xs (acc ++ a) else none
def gW.f (k : Nat) (a0_0 : Int) (a0_1 : Int) (a0_2 : Int) (a0_3 : Int) (a0_4 : ByteArray) (a0_5 : Int) : Option ByteArray :=
  (gW.g k [a0_0, a0_1, a0_2, a0_3] ByteArray.empty).bind fun s => (jh.f k a0_4).bind fun t => if s.size + t.size ≤ 140737488355328 then (gq.f k a0_5).bind fun u => if (s ++ t).size + u.size ≤ 140737488355328 then some ((s ++ t) ++ u) else none else none
theorem gW.tT (k : Nat) (l : List Int) : ∀ acc, LeO (gW.g k l acc) (gW.g (k + 1) l acc) := by
 induction l with
 | nil => intro acc; exact LeO.refl _
 | cons x xs ih =>
  intro acc; unfold gW.g; exact LeO.bind (bL.mono _ _) fun a => LeO.ite (ih _) (LeO.refl _)
theorem gW.mono : ∀ a0 a1 a2 a3 a4 a5 k, LeO (gW.f k a0 a1 a2 a3 a4 a5) (gW.f (k + 1) a0 a1 a2 a3 a4 a5) := by
 intro a0 a1 a2 a3 a4 a5 k; exact LeO.bind (gW.tT _ _ _) fun s => LeO.bind (jh.mono _ _) fun t => LeO.ite (LeO.bind (gq.mono _ _) fun u => LeO.refl _) (LeO.refl _)
def fD.g (k : Nat) : List S51 → ByteArray → Option ByteArray
  | [], acc => some acc
  | m :: l, acc => (gW.f k m.f0.f0 m.f0.f1 m.f1 m.f2 m.f3 m.f4).bind fun a => if acc.size + a.size ≤ 140737488355328 then fD.g k l (acc ++ a) else none
def fD.b : ByteArray := ⟨#[66, 78, 83, 73, 1]⟩
def fD.f (k : Nat) (l0 : List (S51)) : Option (ByteArray × Int) :=
  (cm.f k l0).bind fun may => if may then (bL.f k (l0.length : Int)).bind fun p => if fD.b.size + p.size ≤ 140737488355328 then (fD.g k l0 (fD.b ++ p)).bind fun s => some (s, 0) else none else some (ByteArray.empty, 1)
theorem fD.tT (k : Nat) (l : List S51) : ∀ acc, LeO (fD.g k l acc) (fD.g (k + 1) l acc) := by
 induction l with
 | nil => intro acc; exact LeO.refl _
 | cons x xs ih =>
  intro acc; unfold fD.g; exact LeO.bind (gW.mono _ _ _ _ _ _ _) fun a => LeO.ite (ih _) (LeO.refl _)
theorem fD.mono : ∀ a0 k, LeO (fD.f k a0) (fD.f (k + 1) a0) := by
 intro a0 k; exact LeO.bind (cm.mono _ _) fun may => LeO.ite (LeO.bind (bL.mono _ _) fun p => LeO.ite (LeO.bind (fD.tT _ _ _) fun s => LeO.refl _) (LeO.refl _)) (LeO.refl _)
def rN.f (a0 : ByteArray) (a1 : ByteArray) : Option (Bool) := if (a0.size : Int) ≥ (a1.size : Int) then (if 0 ≤ (a1.size : Int) then (if (a1.size : Int) ≤ (a0.size : Int) then (some ((a0.extract 0 a1.size).toList == a1.toList)) else (none)) else (none)) else (some false)
def rO.f (a0 : ByteArray) (a1 : ByteArray) : Option (ByteArray × Bool) := (rN.f a0 a1).bind fun RD => (if RD = true then (if 0 ≤ (a1.size : Int) then (if (a1.size : Int) ≤ (a0.size : Int) then (some (a0.extract a1.size a0.size, true)) else (none)) else (none)) else (some (a0, false)))
def uH.f (a0 : ByteArray) (a1 : ByteArray) : Option (ByteArray × Bool) := (rO.f a0 a1).bind fun JQ => (some (JQ.1, JQ.2))
def zE.f (a0 : ByteArray) : Option (Int × Int) := (uH.f a0 (⟨#[66, 78, 83, 73]⟩ : ByteArray)).bind fun Au => (if Au.2 = true then (if Au.1.toList = ([] : List UInt8) then (some (0, 2)) else (if 0 < (Au.1.size : Int) then (some (wrap64 (bt Au.1 0), 0)) else (none))) else (some (0, 7)))
def nt.go : Nat → ByteArray → Int → Bool → List Int → Option (List Int × Bool × ByteArray × Int)
  | 0, s, e, well, xs => some (xs, well, s, e)
  | n + 1, s, e, well, xs => (aJ.f s e).bind fun r => nt.go n r.2.1 r.2.2 (well && decide (r.1 ≤ 9223372036854775807)) (xs ++ [wrap64 r.1])
def nt.f (s : ByteArray) (e : Int) : Option (List Int × Bool × ByteArray × Int) := nt.go 4 s e true []
theorem nt.len : ∀ n s e w xs r, nt.go n s e w xs = some r → r.1.length = n + xs.length
  | 0, s, e, w, xs, r, h => by
    unfold nt.go at h
    obtain rfl := Option.some.inj h
    simp
  | n + 1, s, e, w, xs, r, h => by
    unfold nt.go at h
    obtain ⟨q, _, h⟩ := Option.bind_eq_some_iff.mp h
    have := nt.len n _ _ _ _ _ h
    rw [this, List.length_append, List.length_singleton]
    omega
def kX {α : Type} (f : Nat → α) (k : Nat) : List α := (List.range k).map f
theorem uR {α : Type} (f : Nat → α) (k : Nat) : kX f (k + 1) = kX f k ++ [f k] := by simp [kX, List.range_succ]
theorem zF {α : Type} (f : Nat → α) (k : Nat) : (kX f k).length = k := by simp [kX]
def tU (Bs b : Nat) (W W' : World) : Prop := ∀ k, k = Bs ∨ k = b → W'.heap[k]? = W.heap[k]?
theorem Gh {Bs b : Nat} {A B C : World} (h : tU Bs b A B) (k : tU Bs b B C) : tU Bs b A C := fun i hi => (k i hi).trans (h i hi)
theorem Na {Bs b : Nat} {w : World} (h1 : Bs < w.heap.size) (h2 : b < w.heap.size) (W : World) (l : Nat) (o o' : Obj) (hl : w.heap.size ≤ l) (h : W.heap[l]? = some o) (_ : o.isCells = false) (_ : o.isWalk = false) : tU Bs b W (W.putObj l o') :=
  fun k hk => by
    have hlt := (Array.getElem?_eq_some_iff.1 h).1
    exact (grownBy_putObj' W l o').block k (by rcases hk with rfl | rfl <;> omega) (fun e => by cases e; rcases hk with rfl | rfl <;> omega)
theorem zl {Bs b k j : Nat} {A B : World} (h : tU Bs b A B) (hk : k = Bs ∨ k = b) : B.cell? ⟨k, j, none⟩ = A.cell? ⟨k, j, none⟩ := by
 unfold World.cell?; simp only [h k hk]
section
attribute [local go_sem] Oper.semAt_some
set_option maxRecDepth 100000 in
set_option maxHeartbeats 2000000 in
theorem Fh (F : Fence) (n : Nat) (h8 : F.fn 180) (hro : F.round = none) (hn : 1 ≤ n) (l Bs b off len cap : Nat) (f : Nat → Int) (hreach : len ≤ 140737488351232) (J Jx : List (Nat × Int) → World → Prop)
    (hY : ∀ pre x W, J pre W → pre.length < len → YieldAt F (n - 1) Tryz.prog l #[.int .i64 (x.1 : Int), .int .u8 x.2] W fun e W' =>
      (e = .returned (.bool true) ∧ J (pre ++ [x]) W' ∧ tU Bs b W W') ∨ (e = .returned (.bool false) ∧ Jx (pre ++ [x]) W'))
    (W : World) (hBs : W.cell? ⟨Bs, 0, none⟩ = some (.slice (some ⟨b, off, none⟩) len cap)) (hc : ∀ j, j < len → W.cell? ⟨b, off + j, none⟩ = some (.int .u8 (f j))) (h0 : J [] W) :
    CallsIn F n Tryz.prog 180 #[.func (.yield l) #[] #[], .pointer (some ⟨Bs, 0, none⟩)] W fun e W' => (∃ v, e = .returned v) ∧
      ((∃ ys, ys = kX (fun j => (len - 1 - j, f (len - 1 - j))) len ∧ J ys W') ∨ (∃ pre, (∃ k, k ≤ len ∧ pre = kX (fun j => (len - 1 - j, f (len - 1 - j))) k) ∧ Jx pre W')) := by
  have hu1 := Tryz.underlying102
  refine callsIn_of_wp Tryz.func180 rfl h8 ?_ hro
  simp only [Tryz.ntmps180, List.size_toArray, List.length_cons, List.length_nil, Nat.reduceAdd, Nat.reduceSub, Array.replicate_succ, Array.replicate_zero, List.push_toArray, List.append_toArray, List.nil_append, List.cons_append]
  gi_wp2
  gi_loopw [3] (fun i wr => ∃ k : Nat, k ≤ len ∧ i = .int .i64 ((len : Int) - 1 - k) ∧ J (kX (fun j => (len - 1 - j, f (len - 1 - j))) k) wr ∧ tU Bs b W wr)
    (fun i _ => (intOf i + 1).toNat)
  case atStart => exact ⟨0, Nat.zero_le _, by simp [wrap64] <;> omega, h0, fun _ _ => rfl⟩
  case round =>
    obtain ⟨k, hk, rfl, hJs, hnx⟩ := hrel
    by_cases hlt : k < len
    · obtain ⟨fn, tmps, assign, body, hy, hR⟩ := hY _ (len - 1 - k, f (len - 1 - k)) wr hJs (by rw [zF]; exact hlt)
      dsimp only at hy
      obtain ⟨m, hm⟩ : ∃ m, m = len - 1 - k := ⟨_, rfl⟩
      have hmi : (len : Int) - 1 - k = (m : Int) := by omega
      have hcx : wr.cell? ⟨b, off + m, none⟩ = some (.int .u8 (f m)) := (zl hnx (.inr rfl)).trans (hc m (by omega))
      have hcs : wr.cell? ⟨Bs, 0, none⟩ = some (.slice (some ⟨b, off, none⟩) len cap) := (zl hnx (.inl rfl)).trans hBs
      have hml : m < len := by omega
      rw [← hm] at hy hR
      rw [hmi]
      have HM := Aside0.mk hm
      have HI := Aside0.mk hmi
      clear hm hmi
      gi_wp2
      refine hR.mono ?_
      rintro e W3 (⟨rfl, hJ3, hk3⟩ | ⟨rfl, hJx3⟩)
      · gi_wp2
        go_roundw
        case rel => exact ⟨k + 1, by omega, by have := HI.out; have := HM.out; simp [wrap64] <;> omega, by rw [uR, ← HM.out]; exact hJ3, Gh hnx hk3⟩
        case measure => have := HI.out; have := HM.out; simp [intOf, wrap64] <;> omega
      · gi_wp2
        refine bodyPost_ret (results_none rfl _ _ _) rfl ?_
        exact ⟨⟨_, rfl⟩, .inr ⟨_, ⟨k + 1, by omega, by rw [uR, ← HM.out]⟩, hJx3⟩⟩
    · obtain rfl : k = len := by omega
      gi_wp2
      go_end0
      exact ⟨⟨_, rfl⟩, .inl ⟨_, rfl, hJs⟩⟩
set_option maxHeartbeats 1000000 in
theorem PM (F : Fence) (n : Nat) (h6 : F.fn 173) (hro : F.round = none) (a : Option Addr) (len cap : Nat) (w : World) :
    CallsIn F n Tryz.prog 173 #[.slice a len cap] w fun e w' => e = .returned (.func (.func 180) #[] #[.pointer (some ⟨w.heap.size, 0, none⟩)]) ∧ w' = w.alloc (.cells #[.slice a len cap] 102) := by
 refine callsIn_of_wp Tryz.func173 rfl h6 ?_ hro; simp only [Tryz.ntmps173, List.size_toArray, List.length_cons, List.length_nil, Nat.reduceAdd, Nat.reduceSub, Array.replicate_succ, Array.replicate_zero, List.push_toArray, List.append_toArray, List.nil_append, List.cons_append]
 gi_wp2
 go_ret
 exact ⟨rfl, rfl⟩
theorem I1 (F : Fence) (n : Nat) (h8 : F.fn 180) (hro : F.round = none) (hn : 1 ≤ n) (Bs b off len cap : Nat) (f : Nat → Int) (hreach : len ≤ 140737488351232) (w : World) (hBs : Bs < w.heap.size) (hb : b < w.heap.size)
    (hc : w.cell? ⟨Bs, 0, none⟩ = some (.slice (some ⟨b, off, none⟩) len cap)) (hI : ∀ j, j < len → w.cell? ⟨b, off + j, none⟩ = some (.int .u8 (f j))) :
    SeqStopsK F n Tryz.prog 180 #[.pointer (some ⟨Bs, 0, none⟩)] (fun x : Nat × Int => #[Value.int .i64 (x.1 : Int), Value.int .u8 x.2]) (tU Bs b) (fun ys => ys = kX (fun j => (len - 1 - j, f (len - 1 - j))) len)
      (fun pre => ∃ k, k ≤ len ∧ pre = kX (fun j => (len - 1 - j, f (len - 1 - j))) k) len w := fun l J Jx W hW _ _ hY h0 =>
  Fh F n h8 hro hn l Bs b off len cap f hreach J Jx hY W ((hW.cell (p := ⟨Bs, 0, none⟩) hBs).trans hc) (fun j hj => (hW.cell (p := ⟨b, off + j, none⟩) hb).trans (hI j hj)) h0
end
def cv.step (u b : Int) : Int := bits BinOp.or IntKind.u64 (IntKind.u64.wrap (u * 256)) (IntKind.u64.wrap b)
def cv.fold (pre : List (Nat × Int)) : Int := pre.foldl (fun u p => cv.step u p.2) 0
theorem cv.Gi (pre : List (Nat × Int)) (x : Nat × Int) : cv.fold (pre ++ [x]) = cv.step (cv.fold pre) x.2 := by simp [cv.fold]
def cv.seq (r : ByteArray) : List (Nat × Int) := kX (fun j => (r.size - 1 - j, ((r.data[r.size - 1 - j]?.getD 0).toNat : Int))) r.size
def cv.Inv (w2 : World) (u0 : Nat) (pre : List (Nat × Int)) (W : World) : Prop :=
  W.heap[u0]? = some (.cells #[.int .u64 (cv.fold pre)] 60 (0, 0)) ∧ Below u0 w2 W ∧ bE w2 W u0 none
theorem cv.zm {w2 W W' : World} {u0 : Nat} {pre : List (Nat × Int)} {row : Option Nat} (h : cv.Inv w2 u0 pre W) (hu : u0 < w2.heap.size) (hg : W.grownBy W' row) (hr : ∀ r, row = some r → w2.heap.size ≤ r) : cv.Inv w2 u0 pre W' := by
 obtain ⟨h1, h2, h3⟩ := h; refine ⟨(hg.block _ (cY h1) (fun e => ?_)).trans h1, h2.grown hg (Nat.le_of_lt (cY h1)) (fun k e => Nat.le_trans (Nat.le_of_lt hu) (hr k e)), Nat.le_trans h3.1 hg.size, fun i hi hne hn => (hg.block i (Nat.lt_of_lt_of_le hi h3.1) (fun e => ?_)).trans (h3.2 i hi hne hn)⟩
 · have := hr _ e.symm; omega
 · have := hr _ e.symm; omega
section
attribute [local go_sem] Oper.semAt_some
set_option maxHeartbeats 8000000 in
set_option maxRecDepth 100000 in
theorem cv.any (g : Nat) (s0_0 : ByteArray) (s0_1 : Int) (r1 : ByteArray) (r2 : ByteArray) (r3 : Int) (w0 w : World) (hI : ag w0 w g s0_0 s0_1) (hB : Below w0.heap.size w0 w) (h : dw.f s0_0 s0_1 8 = some (r1, r2, r3)) :
    Calls Tryz.prog 148 #[.pointer (some ⟨g, 0, none⟩)] w fun e w' => e = .returned (.int .u64 (cv.fold (cv.seq r1))) ∧ ag w0 w' g r2 r3 ∧ Below w0.heap.size w0 w' ∧ bE w w' g none := by
 have hge := hI.2; have hw := hB.size; have hlt := cY hI.1
 have hr8 : r1.size ≤ 140737488351232 := by
  unfold dw.f at h; have he : (⟨#[]⟩ : ByteArray).size = 0 := rfl
  split at h
  ·
   split at h
   ·
    obtain rfl := (Prod.mk.inj (Option.some.inj h)).1; rw [ByteArray.size_extract]
    omega
   ·
    obtain rfl := (Prod.mk.inj (Option.some.inj h)).1
    omega
  ·
   obtain rfl := (Prod.mk.inj (Option.some.inj h)).1
   omega
 refine (callsIn_wide (n := 3)).1 ?_; refine callsIn_of_wp_marks Tryz.func148 rfl trivial ?_ rfl; simp only [Tryz.ntmps148, List.size_toArray, List.length_cons, List.length_nil, Nat.reduceAdd, Nat.reduceSub, Array.replicate_succ, Array.replicate_zero, List.push_toArray, List.append_toArray, List.nil_append, List.cons_append]; have HI := Aside0.mk (ag.alloc hI (.cells #[.int .u64 0] 60)); have HB := Aside0.mk (aH hB (.cells #[.int .u64 0] 60)); have HK := Aside0.mk (eK (bE.refl w g none) (.cells #[.int .u64 0] 60))
 gi_wp2_with (refine ⟨trivial, ?_⟩; gi_at_call 44; refine (callsIn_wide.2 (dw.calls g _ _ 8 r1 r2 r3 w0 _ HI.out HB.out h)).mono ?_; rintro e w5 ⟨rfl, hI5, hB5, hK5⟩)
 rw [run_bytes_of_string (P := Tryz.prog) w5 9 102 5 r1 Tryz.underlying9 Tryz.underlying102 Tryz.underlying5]; obtain ⟨cap, hcap⟩ : ∃ cap, cap = grownCap w5 r1.size 0 5 := ⟨_, rfl⟩; rw [← hcap]; have HBw := Aside0.mk hB5; have HKw := Aside0.mk hK5; have HIw := Aside0.mk hI5; clear hB5 hK5 hI5 hcap
 gi_wp2_with (refine ⟨trivial, ?_⟩; gi_at_call 173; refine (PM Fence.wide _ trivial rfl _ _ _ _).mono ?_; rintro e w6 ⟨rfl, rfl⟩)
 obtain ⟨w2, hw2⟩ : ∃ W, W = ((w5.alloc (.cells (bytesRow r1 cap) 5 ((bytesRow r1 cap).size, (bytesRow r1 cap).size + 1))).alloc (.cells #[.slice (some ⟨w5.heap.size, 0, none⟩) r1.size cap] 102)).drew := ⟨_, rfl⟩; have hh2 : w2.heap = ((w5.alloc (.cells (bytesRow r1 cap) 5 ((bytesRow r1 cap).size, (bytesRow r1 cap).size + 1))).alloc (.cells #[.slice (some ⟨w5.heap.size, 0, none⟩) r1.size cap] 102)).heap := by rw [hw2]; rfl
 have hs2 : w2.heap.size = w5.heap.size + 2 := by rw [hh2]; simp
 have hs5 : w.heap.size + 1 ≤ w5.heap.size := by have := HKw.out.1; simpa using this
 have hlow : ∀ k, k < w5.heap.size → w2.heap[k]? = w5.heap[k]? := fun k hk => by
  rw [hh2]; exact (Below.heap_alloc _ _ _ (by simp; omega)).trans (Below.heap_alloc _ _ _ hk)
 have hu : w2.heap[w.heap.size]? = some (.cells #[.int .u64 0] 60 (0, 0)) := by
  rw [hlow _ (by omega), HKw.out.2 _ (by simp) (by omega) (by simp)]; exact eJ w _
 have hbs : w2.cell? ⟨w5.heap.size + 1, 0, none⟩ = some (.slice (some ⟨w5.heap.size, 0, none⟩) r1.size cap) := by
  have h := eJ (w5.alloc (.cells (bytesRow r1 cap) 5 ((bytesRow r1 cap).size, (bytesRow r1 cap).size + 1))) (.cells #[.slice (some ⟨w5.heap.size, 0, none⟩) r1.size cap] 102); rw [← hh2, World.size_alloc] at h; exact (af h 0).trans rfl
 have hby : ∀ j, j < r1.size → w2.cell? ⟨w5.heap.size, 0 + j, none⟩ = some (.int .u8 ((r1.data[j]?.getD 0).toNat : Int)) := fun j hj => by
  have h : w2.heap[w5.heap.size]? = some (.cells (bytesRow r1 cap) 5 ((bytesRow r1 cap).size, (bytesRow r1 cap).size + 1)) := by
   rw [hh2]; exact (Below.heap_alloc _ _ _ (by simp)).trans (eJ w5 _)
  rw [Nat.zero_add]; have hj' : j < r1.data.size := hj; refine (cell_of_row _ _ j _ _ _ h).trans ?_; unfold bytesRow; rw [Array.getElem?_append_left (by simpa using hj')]; rw [Array.getElem?_map, Array.getElem?_eq_getElem hj']
  rfl
 have hI2 : ag w0 w2 g r2 r3 := ⟨(hlow _ (cY HIw.out.1)).trans HIw.out.1, HIw.out.2⟩; have hB2 : Below w0.heap.size w0 w2 := by rw [hw2]; exact bw (aH (aH HBw.out _) _)
 have hK2 : bE w w2 g none := ⟨by omega, fun i hi hne hn => (hlow i (by omega)).trans ((HKw.out.2 i (by simp; omega) hne hn).trans (Below.heap_alloc _ _ _ hi))⟩; rw [← hw2]; have U := Aside0.mk hu; have HI2 := Aside0.mk hI2; have HB2 := Aside0.mk hB2; have HK2 := Aside0.mk hK2; clear hw2 hh2 hlow HI HB HK HBw HKw HIw hI hB hu hI2 hB2 hK2 h
 refine wpIn_rangeFunc_ownG rfl (by omega) (gf := 180) (lb := #[.pointer (some ⟨w5.heap.size + 1, 0, none⟩)]) rfl trivial (enters_of Tryz.func180 (by kernel_rfl) rfl)
  (I1 Fence.wide (3 - 1) trivial rfl (by omega) (w5.heap.size + 1) w5.heap.size 0 r1.size cap (fun j => ((r1.data[j]?.getD 0).toNat : Int)) hr8 w2 (by omega) (by omega) hbs hby) Gh (Na (by omega) (by omega)) (Below.refl _ _) (fun _ => rfl)
  (cv.Inv w2 w.heap.size)
  (fun _ _ _ => False)
  (fun s A B row hs hg hr => cv.zm hs (by omega) hg (fun r e => (hr r e).1))
  (fun _ _ _ _ _ hs _ _ => hs)
  ⟨U.out, Below.refl _ _, bE.refl _ _ _⟩
  (fun x => { tmps := #[.pointer (some ⟨g, 0, none⟩), undef, .int .u64 0, .pointer (some ⟨w.heap.size, 0, none⟩), undef, .int .u8 x.2, .pointer (some ⟨g, 0, none⟩), .string r1, .slice (some ⟨w5.heap.size, 0, none⟩) r1.size cap, .func (.func 180) #[] #[.pointer (some ⟨w5.heap.size + 1, 0, none⟩)], .int .i64 (x.1 : Int), .int .u8 x.2, undef, undef, undef, undef, undef, undef], defers := [] }) ?assign ?body ?done ?stop
 case assign =>
  intro l x W K hK
  gi_wp2
  exact hK
 case body =>
  rintro l pre x W hInv _; have hc := (af hInv.1 0).trans rfl; have hf : W.frozen? ⟨w.heap.size, 0, none⟩ = false := aj hInv.1 0
  gi_wp2
  refine ⟨(KeepsOthers.setCell _ _ _).from _, fun k hk => ?_, ?_⟩
  · exact Below.heap_setCell W _ _ _ (by rcases hk with rfl | rfl <;> simp <;> omega)
  ·
   refine ⟨?_, hInv.2.1.setCell (p := ⟨w.heap.size, 0, none⟩) (Nat.le_refl _) _, hInv.2.2.kL 0 _⟩; rw [cv.Gi]; exact jt hInv.1 0 _
 case done =>
  rintro D ys W hD rfl hInv hK; have hc := (af hInv.1 0).trans rfl
  gi_wp2
  refine ⟨by simp, .inl ⟨_, _, rfl, run_takeDeferred hK, ?_⟩⟩; have hInv' := cv.zm hInv (by omega) (grownBy_putObj' W D (.deferred none)) (fun r e => by cases e; exact hD); refine ⟨_, results_tmp rfl _ _ _, rfl, ⟨?_, HI2.out.2⟩, HB2.out.trans (hInv'.2.1.mono hw), ?_⟩
  · exact (hInv'.2.2.2 _ (by omega) (by omega) (by simp)).trans HI2.out.1
  · exact ⟨by have := hInv'.2.2.1; omega, fun i hi hne hn => (hInv'.2.2.2 _ (by omega) (by omega) (by simp)).trans (HK2.out.2 i hi hne hn)⟩
 case stop =>
  rintro D c pre W _ _ h _; exact h.elim
end
def cv.f (s : ByteArray) (k : Int) : Option (Int × ByteArray × Int) := (dw.f s k 8).bind fun r => some (cv.fold (cv.seq r.1), r.2.1, r.2.2)
end Go.Proofs.YtfgnjndfnijjoaaGreat.Print
end
section
namespace Go.Proofs.YtfgnjndfnijjoaaGreat.Print
open Go.RowKit Go.Proofs.YtfgnjndfnijjoaaGreatW.PrintWords Go.Proofs.YtfgnjndfnijjoaaGreatW.PrintLast Go.Proofs.YtfgnjndfnijjoaaGreatW.PrintMore
attribute [local go_sem] dJ dK eF eG cZ dc dL dM
attribute [local go_sem] bH
set_option linter.unusedVariables false
set_option linter.unusedSimpArgs false
def oo.bad (well : Bool) (u : Int) (a b c d : Int) (name : ByteArray) (fl : Int) : Option Bool :=
  if well = false then some true else (jn.f u).bind fun cn => if cn = false then some true else (jH.f a b c d name fl).bind fun o => some (!o)
def oo.f (k : Nat) (S s : ByteArray) (e : Int) : Option (S51 × Int × ByteArray × Int) :=
  (nt.f s e).bind fun r => if r.2.2.2 ≠ 0 then some (z51, r.2.2.2, r.2.2.1, r.2.2.2) else
    (cr.f k S (wrap64 ((S.size : Int) - (r.2.2.1.size : Int))) 64).bind fun q => if q.2.2 ≠ 0 then some (z51, q.2.2, r.2.2.1, r.2.2.2) else
      (dw.f r.2.2.1 r.2.2.2 (wrap64 (q.2.1 - (wrap64 ((S.size : Int) - (r.2.2.1.size : Int)))))).bind fun t => (cv.f t.2.1 t.2.2).bind fun x => if x.2.2 ≠ 0 then some (z51, x.2.2, x.2.1, x.2.2) else
        (jK.f x.1).bind fun fl => (oo.bad r.2.1 x.1 (r.1.getD 0 0) (r.1.getD 1 0) (r.1.getD 2 0) (r.1.getD 3 0) q.1 fl).bind fun bad =>
          if bad then some (z51, 5, x.2.1, x.2.2) else some (⟨⟨r.1.getD 0 0, r.1.getD 1 0⟩, r.1.getD 2 0, r.1.getD 3 0, q.1, fl⟩, 0, x.2.1, x.2.2)
def eV.g (k : Nat) (S : ByteArray) : Nat → List S51 → ByteArray → Int → Option (List S51 × Int)
  | 0, l, s, e => (eE.f s e).bind fun d => if d.1 ≠ 0 then some ([], d.1) else some (l, 0)
  | c + 1, l, s, e => (oo.f k S s e).bind fun r => if r.2.1 ≠ 0 then some ([], r.2.1) else
      (if l.length = 0 then some true else kI.f (aa l ((l.length : Int) - 1)).f0.f0 (aa l ((l.length : Int) - 1)).f0.f1 r.1.f0.f0 r.1.f0.f1).bind fun b =>
        if b = false then some ([], 12) else eV.g k S c (l ++ [r.1]) r.2.2.1 r.2.2.2
def eV.f (k : Nat) (a0 : ByteArray) : Option (List S51 × Int) :=
  (zE.f a0).bind fun v => if v.2 ≠ 0 then some ([], v.2) else if v.1 ≠ 1 then some ([], 8) else if 5 ≤ (a0.size : Int) then
    (eD.f (a0.extract 5 a0.size)).bind fun p => (aJ.f p.1 p.2).bind fun q => if q.2.2 ≠ 0 then some ([], q.2.2) else if q.1 > 2000 then some ([], 10) else if q.1 < 0 then none else
      eV.g k a0 q.1.toNat [] q.2.1 q.2.2
  else none
theorem oo.mono (S s : ByteArray) (e : Int) (k : Nat) : LeO (oo.f k S s e) (oo.f (k + 1) S s e) := by
 unfold oo.f; exact LeO.bind (LeO.refl _) fun r => LeO.ite (LeO.refl _) (LeO.bind (cr.mono _ _ _ _) fun q => LeO.refl _)
theorem eV.tT (S : ByteArray) (k c : Nat) : ∀ l s e, LeO (eV.g k S c l s e) (eV.g (k + 1) S c l s e) := by
 induction c with
 | zero => intro l s e; exact LeO.refl _
 | succ c ih =>
  intro l s e; unfold eV.g; exact LeO.bind (oo.mono _ _ _ _) fun r => LeO.ite (LeO.refl _) (LeO.bind (LeO.refl _) fun b => LeO.ite (LeO.refl _) (ih _ _ _))
theorem eV.mono : ∀ a0 k, LeO (eV.f k a0) (eV.f (k + 1) a0) := by
 intro a0 k; unfold eV.f; exact LeO.bind (LeO.refl _) fun v => LeO.ite (LeO.refl _) (LeO.ite (LeO.refl _) (LeO.ite (LeO.bind (LeO.refl _) fun p => LeO.bind (LeO.refl _) fun q => LeO.ite (LeO.refl _) (LeO.ite (LeO.refl _) (LeO.ite (LeO.refl _) (eV.tT _ _ _ _ _ _)))) (LeO.refl _)))
end Go.Proofs.YtfgnjndfnijjoaaGreat.Print
end
section
namespace Go.Proofs.YtfgnjndfnijjoaaGreat.Print
open Go.RowKit Go.Proofs.YtfgnjndfnijjoaaGreatW.PrintWords Go.Proofs.YtfgnjndfnijjoaaGreatW.PrintLast Go.Proofs.YtfgnjndfnijjoaaGreatW.PrintMore
attribute [local go_sem] dJ dK eF eG cZ dc dL dM
attribute [local go_sem] bH
set_option linter.unusedVariables false
set_option linter.unusedSimpArgs false
def iw.f (k : Nat)  : Option (Bool) := (some (([(⟨(⟨5, 2⟩ : S48), 0, 300, (⟨#[97]⟩ : ByteArray), (4607182418800017408 : Int)⟩ : S51)] : List (S51)) : List (S51))).bind fun mL => ((fD.f k mL).bind fun wY => ((eV.f k wY.1).bind fun JR => ((eV.f k (⟨#[66, 78, 83, 73, 2, 0]⟩ : ByteArray)).bind fun PN => (if wY.1.size + 1 ≤ 9223372036854775807 then ((eV.f k (wY.1 ++ (⟨#[120]⟩ : ByteArray))).bind fun PO => ((fD.f k (([(⟨(⟨0, 0⟩ : S48), 0, 0, (⟨#[]⟩ : ByteArray), (0 : Int)⟩ : S51)] : List (S51)))).bind fun PR => (if 0 < (mL.length : Int) then ((gW.f k ((aa mL 0).f0.f0) ((aa mL 0).f0.f1) ((aa mL 0).f1) ((aa mL 0).f2) ((aa mL 0).f3) ((aa mL 0).f4)).bind fun I2 => (if 6 + I2.size ≤ 9223372036854775807 then ((gW.f k ((aa mL 0).f0.f0) ((aa mL 0).f0.f1) ((aa mL 0).f1) ((aa mL 0).f2) ((aa mL 0).f3) ((aa mL 0).f4)).bind fun Nb => (if ((⟨#[66, 78, 83, 73, 1, 2]⟩ : ByteArray) ++ I2).size + Nb.size ≤ 9223372036854775807 then ((eV.f k (((⟨#[66, 78, 83, 73, 1, 2]⟩ : ByteArray) ++ I2) ++ Nb)).bind fun PS => ((eV.f k (⟨#[66, 78, 83, 73, 1, 0]⟩ : ByteArray)).bind fun JS => ((eV.f k (⟨#[66, 78, 83, 88]⟩ : ByteArray)).bind fun PT => (if wY.2 = 0 then (if wY.1.toList = ([66, 78, 83, 73, 1, 1, 5, 2, 0, 172, 2, 1, 97, 0, 0, 0, 0, 0, 0, 240, 63] : List UInt8) then (if JR.2 = 0 then ((aW.f k JR.1 mL).bind fun RE => (if RE = true then (if PN.2 = 8 then (if PO.2 = 5 then (if PR.2 = 1 then (if PS.2 = 12 then (if (JS.1.length : Int) = 0 then (if JS.2 = 0 then (some (PT.2 == 7)) else (none)) else (none)) else (none)) else (none)) else (none)) else (none)) else (none))) else (none)) else (none)) else (none))))) else (none))) else (none))) else (none)))) else (none)))))
theorem iw.mono : ∀ k, LeO (iw.f k ) (iw.f (k + 1) ) := by
 intro  k; unfold iw.f
 repeat' first
  | (with_reducible exact aW.mono _ _ _)
  | (with_reducible exact eV.mono _ _)
  | (with_reducible exact fD.mono _ _)
  | (with_reducible exact gW.mono _ _ _ _ _ _ _)
  | (with_reducible exact LeO.refl _)
  | (with_reducible exact LeO.none _)
  | (with_reducible refine LeO.ite ?_ ?_)
  | (with_reducible refine LeO.bind ?_ (fun _ => ?_))
end Go.Proofs.YtfgnjndfnijjoaaGreat.Print
end
namespace Go.Proofs.YtfgnjndfnijjoaaGreat.Print
end Go.Proofs.YtfgnjndfnijjoaaGreat.Print
section
namespace Go.Proofs.YtfgnjndfnijjoaaGreat.LibA
open Go.RowKit Go.Proofs.YtfgnjndfnijjoaaGreat.Print Go.Proofs.YtfgnjndfnijjoaaGreatW.PrintWords Go.Proofs.YtfgnjndfnijjoaaGreatW.PrintLast
def nu (s : ByteArray) (i m : Int) : Prop :=
  (sgH (bt s i)).2.2.2 = true ∧ m = 1 + (sgH (bt s i)).1 ∧ i + m ≤ s.size ∧ sgR s (sgH (bt s i)).1.toNat (i + 1) (sgH (bt s i)).2.1 (sgH (bt s i)).2.2.1 = true
theorem uS {s : ByteArray} {i m : Int} : og s i = some m ↔ nu s i m := by
 unfold og nu
 constructor
 ·
  intro h
  split at h
  · cases h
  ·
   split at h
   · cases h
   ·
    split at h
    ·
     cases h
     rename_i h1 h2 h3
     exact ⟨by simpa using h1, rfl, by omega, h3⟩
    · cases h
 ·
  rintro ⟨h1, rfl, h3, h4⟩; rw [if_neg (by simp [h1]), if_neg (by omega), if_pos h4]
theorem nu.pos {s : ByteArray} {i m : Int} (h : nu s i m) : 1 ≤ m ∧ m ≤ 4 ∧ i + m ≤ s.size := by
 have := Bc (bt s i); obtain ⟨_, rfl, h3, _⟩ := h
 omega
theorem nu.det {s : ByteArray} {i m m' : Int} (h : nu s i m) (h' : nu s i m') : m = m' := by
 rw [h.2.1, h'.2.1]
inductive Ch (s : ByteArray) : Nat → Int → Int → Prop
  | nil (i : Int) : Ch s 0 i i
  | cons {n : Nat} {i m j : Int} (h : nu s i m) (t : Ch s n (i + m) j) : Ch s (n + 1) i j
theorem Ch.le {s : ByteArray} {n : Nat} {i j : Int} (h : Ch s n i j) : i + n ≤ j ∧ j ≤ i + 4 * n := by
 induction h with
 | nil => omega
 | cons h t ih => have := h.pos; omega
theorem Ch.size {s : ByteArray} {n : Nat} {i j : Int} (h : Ch s n i j) (hi : i ≤ s.size) : j ≤ s.size := by
 induction h with
 | nil => exact hi
 | cons h t ih => exact ih h.pos.2.2
theorem Ch.snoc {s : ByteArray} {n : Nat} {i j m : Int} (h : Ch s n i j) (hm : nu s j m) : Ch s (n + 1) i (j + m) := by
 induction h with
 | nil => exact .cons hm (.nil _)
 | cons h t ih => exact .cons h (ih hm)
theorem Ch.trans {s : ByteArray} {n n' : Nat} {i j k : Int} (h : Ch s n i j) (h' : Ch s n' j k) : Ch s (n + n') i k := by
 induction h with
 | nil => simpa using h'
 | cons h t ih => rw [show ∀ a b : Nat, a + 1 + b = (a + b) + 1 by omega]; exact .cons h (ih h')
theorem Ch.split {s : ByteArray} {n n' : Nat} {i j j' : Int} (h : Ch s n i j) (h' : Ch s n' i j') : (∃ c, n' = n + c ∧ Ch s c j j') ∨ (∃ c m, nu s j' m ∧ Ch s c (j' + m) j) := by
 induction h generalizing n' with
 | nil => exact .inl ⟨n', by omega, h'⟩
 | cons h t ih =>
  cases h' with
  | nil => exact .inr ⟨_, _, h, t⟩
  | cons h2 t2 =>
   have := h.det h2; subst this
   rcases ih t2 with ⟨c, hc, hch⟩ | r
   · exact .inl ⟨c, by omega, hch⟩
   · exact .inr r
theorem Gj (s : ByteArray) : ∀ (k : Nat) (n i : Int), 0 ≤ i → i ≤ s.size → (s.size : Int) - i < k → ∃ c : Nat, ∃ j : Int, sgL s k n i = (n + c, j) ∧ Ch s c i j ∧ j ≤ s.size ∧ ∀ m, ¬ nu s j m
  | 0, n, i, h0, h1, hk => by omega
  | k + 1, n, i, h0, h1, hk => by
    simp only [sgL]
    by_cases hi : i < (s.size : Int)
    · rw [if_pos hi]
      cases hs : og s i with
      | none => exact ⟨0, i, by simp, .nil _, h1, fun m hm => by rw [uS.mpr hm] at hs; cases hs⟩
      | some m =>
        have hm := uS.mp hs
        have := hm.pos
        obtain ⟨c, j, h, hc, hj, hn⟩ := Gj s k (n + 1) (i + m) (by omega) (by omega) (by omega)
        exact ⟨c + 1, j, by show sgL s k (n + 1) (i + m) = _; rw [h, show n + 1 + (c : Int) = n + ((c + 1 : Nat) : Int) by omega], .cons hm hc, hj, hn⟩
    · rw [if_neg hi]
      refine ⟨0, i, by simp, .nil _, h1, fun m hm => ?_⟩
      have := hm.pos
      omega
theorem I3 (s : ByteArray) : ∃ c : Nat, ∃ j : Int, sgL s (s.size + 1) 0 0 = ((c : Int), j) ∧ Ch s c 0 j ∧ 0 ≤ j ∧ j ≤ s.size ∧ ∀ m, ¬ nu s j m := by
 obtain ⟨c, j, h, hc, hj, hn⟩ := Gj s (s.size + 1) 0 0 (by omega) (by omega) (by omega); exact ⟨c, j, by rw [h]; simp, hc, by have := hc.le; omega, hj, hn⟩
def Vld (s : ByteArray) : Prop := ∃ c, Ch s c 0 s.size
theorem La {s : ByteArray} {c : Nat} {j : Int} (h : Ch s c 0 j) (hn : ∀ m, ¬ nu s j m) (hj : j ≤ s.size) : Vld s ↔ j = s.size := by
 constructor
 ·
  rintro ⟨c', h'⟩
  rcases h.split h' with ⟨c2, _, h2⟩ | ⟨c2, m, hm, h2⟩
  ·
   cases h2 with
   | nil => rfl
   | cons hm _ => exact absurd hm (hn _)
  ·
   have := hm.pos
   omega
 ·
  rintro rfl; exact ⟨c, h⟩
theorem yQ {s : ByteArray} {n : Nat} (hn : n ≤ s.size) {d : Int} (h0 : 0 ≤ d) (h1 : d < n) : bt (s.extract 0 n) d = bt s d := by
 unfold bt; rw [dif_pos (by rw [ByteArray.size_extract]; omega), dif_pos (by omega)]
 simp [ByteArray.getElem_extract]
theorem yR {s : ByteArray} {a n : Nat} (hn : n ≤ s.size) {d : Int} (h0 : 0 ≤ d) (h1 : a + d < n) : bt (s.extract a n) d = bt s (a + d) := by
 unfold bt; rw [dif_pos (by rw [ByteArray.size_extract]; omega), dif_pos (by omega)]; have e : a + d.toNat = ((a : Int) + d).toNat := by omega
 simp only [ByteArray.getElem_extract, e]
theorem size_take {s : ByteArray} {n : Nat} (hn : n ≤ s.size) : (s.extract 0 n).size = n := by rw [ByteArray.size_extract]; omega
end Go.Proofs.YtfgnjndfnijjoaaGreat.LibA
end
section
namespace Go.Proofs.YtfgnjndfnijjoaaGreat.LibB
open Go.RowKit Go.Proofs.YtfgnjndfnijjoaaGreat.Print Go.Proofs.YtfgnjndfnijjoaaGreatW.PrintWords Go.Proofs.YtfgnjndfnijjoaaGreatW.PrintLast Go.Proofs.YtfgnjndfnijjoaaGreatW.PrintMore Go.Proofs.YtfgnjndfnijjoaaGreat.LibA
theorem w64 {n : Int} (h0 : -9223372036854775808 ≤ n) (h1 : n ≤ 9223372036854775807) : wrap64 n = n := by unfold wrap64; omega
structure wZ (s : ByteArray) (c : Nat) (j : Int) : Prop where
  signs : kf.f s = some ((c : Int), j)
  ch : Ch s c 0 j
  lo : 0 ≤ j
  hi : j ≤ s.size
  stop : ∀ m, ¬ nu s j m
  few : (c : Int) ≤ j
theorem tells (s : ByteArray) (hs : s.size ≤ 140737488351232) : ∃ c j, wZ s c j := by
 obtain ⟨c, j, h, hc, h0, hj, hn⟩ := I3 s; exact ⟨c, j, by unfold kf.f; rw [if_pos (by omega), h], hc, h0, hj, hn, by have := hc.le; omega⟩
theorem wZ.vld {s : ByteArray} {c : Nat} {j : Int} (t : wZ s c j) : Vld s ↔ j = s.size := La t.ch t.stop t.hi
noncomputable instance (s : ByteArray) : Decidable (Vld s) := Classical.propDecidable _
theorem wZ.tV {s : ByteArray} {c : Nat} {j : Int} (t : wZ s c j) : iG.f s = some (decide (Vld s)) := by
 unfold iG.f; rw [t.signs]; simp only [Option.bind_some]
 congr 1
 by_cases h : j = (s.size : Int)
 · simp [h, t.vld]
 · simp [h, t.vld]
theorem tV (s : ByteArray) (hs : s.size ≤ 140737488351232) : iG.f s = some (decide (Vld s)) := by
 obtain ⟨c, j, t⟩ := tells s hs; exact t.tV
end Go.Proofs.YtfgnjndfnijjoaaGreat.LibB
end
section
namespace Go.Proofs.YtfgnjndfnijjoaaGreat.LibC
open Go.RowKit Go.Proofs.YtfgnjndfnijjoaaGreat.Print Go.Proofs.YtfgnjndfnijjoaaGreatW.PrintWords Go.Proofs.YtfgnjndfnijjoaaGreatW.PrintLast Go.Proofs.YtfgnjndfnijjoaaGreatW.PrintMore Go.Proofs.YtfgnjndfnijjoaaGreat.LibA Go.Proofs.YtfgnjndfnijjoaaGreat.LibB
theorem PU (a : Int) (h0 : 0 ≤ a) (h1 : a < 256) : bits .or .u8 a 128 = a % 128 + 128 := by
 obtain ⟨n, rfl⟩ := Int.eq_ofNat_of_zero_le h0; have key : ∀ m : Fin 256, bits .or .u8 ((m.val : Nat) : Int) 128 = ((m.val : Nat) : Int) % 128 + 128 := by decide +kernel
 exact key ⟨n, by omega⟩
def eY : Nat → Int → List Int
  | 0, x => [x]
  | d + 1, x => if x ≥ 128 then (x % 128 + 128) :: eY d (x / 128) else [x]
theorem JT : ∀ (d k : Nat) (x : Int) (acc : List Int), 0 ≤ x → x < 128 ^ (d + 1) → x < 18446744073709551616 → acc.length + d < 140737488355328 →
    bL.l0 (d + 1 + k) x acc = some (strOfNums (acc ++ eY d x)) ∧ fh.l0 (d + 1 + k) x acc = some (strOfNums (acc ++ eY d x))
  | 0, k, x, acc, h0, h1, h2, h3 => by
    rw [show 0 + 1 + k = k + 1 by omega]
    simp only [bL.l0, fh.l0, eY]
    rw [if_neg (by omega), if_pos (by omega), if_neg (by omega), show x % 256 = x by omega]
    exact ⟨rfl, rfl⟩
  | d + 1, k, x, acc, h0, h1, h2, h3 => by
    rw [show d + 1 + 1 + k = (d + 1 + k) + 1 by omega]
    simp only [bL.l0, fh.l0, eY]
    by_cases hx : x ≥ 128
    · have hd : x / 128 < 128 ^ (d + 1) := by
        rw [Int.pow_succ] at h1
        exact Int.ediv_lt_of_lt_mul (by omega) h1
      obtain ⟨e1, e2⟩ := JT d k (x / 128) (acc ++ [x % 128 + 128]) (by omega) hd (by omega) (by simp; omega)
      rw [if_pos hx, if_pos (by omega), if_pos hx, if_pos (by omega), if_pos (by omega)]
      rw [PU (x % 256) (by omega) (by omega), show x % 256 % 128 = x % 128 by omega, e1]
      rw [Int.tdiv_eq_ediv_of_nonneg h0, Int.tmod_eq_emod_of_nonneg h0, gv _ (by omega) (by omega), show (x % 128 + 128) % 256 = x % 128 + 128 by omega, e2]
      simp
    · rw [if_neg hx, if_pos (by omega), if_neg hx, if_neg (by omega), show x % 256 = x by omega]
      exact ⟨rfl, rfl⟩
theorem BR (x : Int) (h0 : 0 ≤ x) (h1 : x < 18446744073709551616) (k : Nat) (hk : 10 ≤ k) : bL.f k x = some (strOfNums (eY 9 x)) ∧ fh.f k x = some (strOfNums (eY 9 x)) := by
 have := JT 9 (k - 10) x [] h0 (by omega) h1 (by simp); rw [show 9 + 1 + (k - 10) = k by omega] at this
 simpa [bL.f, fh.f] using this
theorem nU : ∀ (d : Nat) (x : Int), 1 ≤ (eY d x).length ∧ (eY d x).length ≤ d + 1
  | 0, x => by simp [eY]
  | d + 1, x => by
    have := nU d (x / 128)
    unfold eY
    split <;> simp <;> omega
end Go.Proofs.YtfgnjndfnijjoaaGreat.LibC
end
section
namespace Go.Proofs.YtfgnjndfnijjoaaGreat.LibD
open Go.RowKit Go.Proofs.YtfgnjndfnijjoaaGreat.Print Go.Proofs.YtfgnjndfnijjoaaGreatW.PrintWords Go.Proofs.YtfgnjndfnijjoaaGreatW.PrintLast Go.Proofs.YtfgnjndfnijjoaaGreatW.PrintMore Go.Proofs.YtfgnjndfnijjoaaGreat.LibA Go.Proofs.YtfgnjndfnijjoaaGreat.LibB Go.Proofs.YtfgnjndfnijjoaaGreat.LibC
def oq (R : Int × Int × Int) (S : ByteArray) (at_ : Int) : Int × ByteArray × Int × Int := if R.1 = 0 then (R.2.1, S, at_ + R.2.2, 0) else (0, S, at_, R.1)
theorem JU (S s : ByteArray) (a : Int) (ha : 0 ≤ a) (hS : S.size ≤ 140737488351232) (hs : (S.size : Int) = a + s.size) (hb : ∀ d : Int, 0 ≤ d → d < s.size → bt S (a + d) = bt s d) :
    ∀ (d : Nat) (i n : Int) (k : Nat), i + (d + 1 : Nat) = 10 → 0 ≤ i → i ≤ s.size → 0 ≤ n → n < 128 ^ i.toNat →
      aU.l0 (3 * (d + 1) + k) n (128 ^ i.toNat) i S a 0 = some (oq (fo s (d + 1) i n) S a)
  | d, i, n, k, hd, hi0, his, hn0, hn => by
    rw [show 3 * (d + 1) + k = (((3 * d + k) + 1) + 1) + 1 by omega]
    simp only [aU.l0, aU.j1, fo]
    rw [if_pos (by omega), w64 (show -9223372036854775808 ≤ a + i by omega) (by omega)]
    simp only [BEq.rfl, if_true]
    by_cases hlt : i < (s.size : Int)
    · rw [if_neg (by omega), if_pos (by omega), if_pos (by omega), if_pos hlt, hb i hi0 hlt]
      have hr := oZ s i
      rw [gv _ hr.1 (by omega)]
      by_cases hok : (i < 9 ∨ bt s i ≤ 1) ∧ (i = 0 ∨ bt s i ≠ 0)
      · rw [if_pos hok]
        have hj : ∀ X : Bool, X = false → (aU.j2 (3 * d + k + 1) n (128 ^ i.toNat) i (bt s i) X S a 0 = some (oq (if bt s i < 128 then (0, n + bt s i % 128 * 128 ^ i.toNat, i + 1) else fo s d (i + 1) (n + bt s i % 128 * 128 ^ i.toNat)) S a)) := by
          rintro X rfl
          simp only [aU.j2, Bool.false_eq_true, if_false]
          obtain ⟨_, h64⟩ := vB i (bt s i) n hi0 (by omega) hr.1 hr.2 hok.1 hn0 hn
          have hm0 : 0 ≤ bt s i % 128 * 128 ^ i.toNat := Int.mul_nonneg (by omega) (by have := (kU i (by omega)).2; omega)
          rw [Int.tmod_eq_emod_of_nonneg hr.1, gv (bt s i % 128 * 128 ^ i.toNat) hm0 (by omega), gv (n + _) (by omega) h64]
          by_cases hb1 : bt s i < 128
          · rw [if_pos hb1, if_pos hb1, w64 (show -9223372036854775808 ≤ a + i by omega) (by omega), w64 (show -9223372036854775808 ≤ a + i + 1 by omega) (by omega)]
            simp only [oq, if_true]
            congr 4
            omega
          · rw [if_neg hb1, if_neg hb1]
            have h9 : i < 9 := by omega
            cases d with
            | zero => omega
            | succ d =>
              have hp : bt s i % 128 * 128 ^ i.toNat ≤ 127 * 128 ^ i.toNat := Int.mul_le_mul_of_nonneg_right (by omega) (by have := (kU i (by omega)).2; omega)
              have he : (128 : Int) ^ (i + 1).toNat = 128 ^ i.toNat * 128 := by rw [show (i + 1).toNat = i.toNat + 1 by omega, Int.pow_succ]
              have h8 := zi i (by omega)
              have hq := (kU i (by omega)).2
              rw [gv (128 ^ i.toNat * 128) (by omega) (by omega), w64 (by omega) (by omega), ← he]
              exact JU S s a ha hS hs hb d (i + 1) _ k (by omega) (by omega) (by omega) (by omega) (by omega)
        by_cases h9 : i = 9
        · rw [if_pos h9, if_neg (by omega), if_pos (by omega)]
          exact hj _ (by simp; omega)
        · rw [if_neg h9]
          by_cases h0 : i > 0
          · rw [if_pos h0]
            exact hj _ (by simp; omega)
          · rw [if_neg h0]
            exact hj _ rfl
      · rw [if_neg hok]
        have hj : ∀ X : Bool, X = true → aU.j2 (3 * d + k + 1) n (128 ^ i.toNat) i (bt s i) X S a 0 = some (oq (3, 0, 0) S a) := by
          rintro X rfl
          simp only [aU.j2, if_true, oq]
          rfl
        by_cases h9 : i = 9
        · rw [if_pos h9]
          by_cases hb1 : bt s i > 1
          · rw [if_pos hb1]
            exact hj _ rfl
          · rw [if_neg hb1, if_pos (by omega)]
            exact hj _ (by simp; omega)
        · rw [if_neg h9, if_pos (by omega)]
          exact hj _ (by simp; omega)
    · rw [if_pos (by omega), if_neg hlt]
      rfl
structure Sim (S : ByteArray) (a : Int) (r : ByteArray) : Prop where
  big : S.size ≤ 140737488351232
  lo : 0 ≤ a
  size : (S.size : Int) = a + r.size
  rest : r = S.extract a.toNat S.size
theorem Sim.byte {S r : ByteArray} {a : Int} (h : Sim S a r) (d : Int) (h0 : 0 ≤ d) (h1 : d < r.size) : bt S (a + d) = bt r d := by
 have := h.size; have := h.lo; rw [h.rest, yR (Nat.le_refl _) h0 (by omega)]
 congr 1
 omega
theorem Sim.begin (S : ByteArray) (hS : S.size ≤ 140737488351232) (a : Int) (h0 : 0 ≤ a) (h1 : a ≤ S.size) : Sim S a (S.extract a.toNat S.size) :=
  ⟨hS, h0, by rw [ByteArray.size_extract]; omega, rfl⟩
theorem Sim.go {S r : ByteArray} {a : Int} (h : Sim S a r) (n : Int) (h0 : 0 ≤ n) (h1 : n ≤ r.size) : Sim S (a + n) (r.extract n.toNat r.size) := by
 have := h.size; have := h.lo; refine ⟨h.big, by omega, by rw [ByteArray.size_extract]; omega, ?_⟩
 conv => lhs; rw [h.rest]
 rw [ByteArray.extract_extract]
 congr 1
 · omega
 · rw [ByteArray.size_extract]; omega
theorem uD (s : ByteArray) : ∀ (d : Nat) (i n : Int), i + (d : Nat) = 10 → 0 ≤ i → i ≤ s.size → 0 ≤ n → n < 128 ^ i.toNat →
    ((fo s d i n).1 = 0 → 0 ≤ (fo s d i n).2.1 ∧ (fo s d i n).2.1 < 18446744073709551616 ∧ i < (fo s d i n).2.2 ∧ (fo s d i n).2.2 ≤ s.size) ∧ ((fo s d i n).1 = 0 ∨ (fo s d i n).1 = 2 ∨ (fo s d i n).1 = 3)
  | 0, i, n, _, _, _, _, _ => by simp [fo]
  | d + 1, i, n, hd, hi0, his, hn0, hn => by
    have hr := oZ s i
    simp only [fo]
    by_cases hlt : i < (s.size : Int)
    · rw [if_pos hlt]
      by_cases hok : (i < 9 ∨ bt s i ≤ 1) ∧ (i = 0 ∨ bt s i ≠ 0)
      · rw [if_pos hok]
        obtain ⟨_, h64⟩ := vB i (bt s i) n hi0 (by omega) hr.1 hr.2 hok.1 hn0 hn
        have hm0 : 0 ≤ bt s i % 128 * 128 ^ i.toNat := Int.mul_nonneg (by omega) (by have := (kU i (by omega)).2; omega)
        by_cases hb1 : bt s i < 128
        · rw [if_pos hb1]
          exact ⟨fun _ => ⟨by show 0 ≤ n + _; omega, by show n + _ < _; omega, by show i < i + 1; omega, by show i + 1 ≤ _; omega⟩, .inl rfl⟩
        · rw [if_neg hb1]
          have hp : bt s i % 128 * 128 ^ i.toNat ≤ 127 * 128 ^ i.toNat := Int.mul_le_mul_of_nonneg_right (by omega) (by have := (kU i (by omega)).2; omega)
          have he : (128 : Int) ^ (i + 1).toNat = 128 ^ i.toNat * 128 := by rw [show (i + 1).toNat = i.toNat + 1 by omega, Int.pow_succ]
          have := uD s d (i + 1) (n + bt s i % 128 * 128 ^ i.toNat) (by omega) (by omega) (by omega) (by omega) (by omega)
          exact ⟨fun h => by have := this.1 h; omega, this.2⟩
      · rw [if_neg hok]
        exact ⟨(fun h => by cases h), .inr (.inr rfl)⟩
    · rw [if_neg hlt]
      exact ⟨(fun h => by cases h), .inr (.inl rfl)⟩
theorem Sim.num {S r : ByteArray} {a : Int} (h : Sim S a r) (e : Int) : ∃ (v : Int) (r' : ByteArray) (e' a' : Int), aJ.f r e = some (v, r', e') ∧ (∀ k, 30 ≤ k → aU.f k S a e = some (v, S, a', e')) ∧ Sim S a' r' ∧ 0 ≤ v ∧ v < 18446744073709551616 ∧
    (e ≠ 0 → v = 0 ∧ e' = e ∧ r' = r ∧ a' = a) ∧ (e = 0 → e' = 0 ∨ e' = 2 ∨ e' = 3) ∧ (e' = 0 → a < a') ∧ (e' ≠ 0 → v = 0 ∧ r' = r ∧ a' = a) := by
 have hsz := h.size; have hlo := h.lo; have hbig := h.big; have hrs : r.size ≤ 9223372036854775000 := by omega
 by_cases he : e = 0
 ·
  subst he
  have hk : ∀ k, 30 ≤ k → aU.f k S a 0 = some (oq (fo r 10 0 0) S a) := fun k hk => by
   have := JU S r a h.lo h.big h.size h.byte 9 0 0 (k - 30) (by omega) (by omega) (by omega) (by omega) (by decide); rw [show 3 * (9 + 1) + (k - 30) = k by omega] at this; exact this
  obtain ⟨hn1, hn2⟩ := uD r 10 0 0 (by omega) (by omega) (by omega) (by omega) (by decide); unfold aJ.f; rw [if_pos hrs, if_pos rfl]
  by_cases hR : (fo r 10 0 0).1 = 0
  ·
   have hn := hn1 hR; refine ⟨_, _, _, a + (fo r 10 0 0).2.2, by rw [if_pos hR], fun k h' => by rw [hk k h']; unfold oq; rw [if_pos hR], h.go _ (by omega) (by omega), hn.1, hn.2.1, fun h => absurd rfl h, fun _ => .inl rfl, fun _ => by omega, fun h => absurd rfl h⟩
  · refine ⟨_, _, _, a, by rw [if_neg hR], fun k h' => by rw [hk k h']; unfold oq; rw [if_neg hR], h, by omega, by omega, fun h => absurd rfl h, fun _ => by omega, fun h => absurd h hR, fun _ => ⟨rfl, rfl, rfl⟩⟩
 ·
  refine ⟨0, r, e, a, by unfold aJ.f; rw [if_pos hrs, if_neg he], fun k hk => ?_, h, by omega, by omega, fun _ => ⟨rfl, rfl, rfl, rfl⟩, fun h => absurd h he, fun h => absurd h he, fun _ => ⟨rfl, rfl, rfl⟩⟩; obtain ⟨k, rfl⟩ : ∃ m, k = m + 2 := ⟨k - 2, by omega⟩; unfold aU.f; simp only [aU.l0, aU.j1]; rw [if_pos (by omega), if_neg (by simpa using he)]
theorem Sim.left {S r : ByteArray} {a : Int} (h : Sim S a r) (e : Int) : aV.f r e = some ((r.size : Int), r, e) ∧ gz.f S a e = some ((r.size : Int), S, a, e) := by
 have := h.size; have := h.lo; have := h.big; exact ⟨rfl, by unfold gz.f; rw [w64 (by omega) (by omega)]; congr 2; omega⟩
theorem Sim.take {S r : ByteArray} {a : Int} (h : Sim S a r) (n : Int) (h0 : 0 ≤ n) (h1 : n ≤ r.size) : dw.f r 0 n = some (r.extract 0 n.toNat, r.extract n.toNat r.size, 0) ∧
    (∀ k, 1 ≤ k → fj.f k S a 0 n = some (r.extract 0 n.toNat, S, a + n, 0)) := by
 have hsz := h.size; have hlo := h.lo; have hbig := h.big; refine ⟨by unfold dw.f; rw [if_pos rfl, if_pos ⟨h0, h1⟩], fun k hk => ?_⟩; obtain ⟨k, rfl⟩ : ∃ m, k = m + 1 := ⟨k - 1, by omega⟩; unfold fj.f; rw [if_pos rfl, if_neg (by omega), w64 (show -9223372036854775808 ≤ (S.size : Int) - a by omega) (by omega)]; simp only [fj.j0]; rw [if_neg (by simp; omega), if_pos trivial, w64 (show -9223372036854775808 ≤ a + n by omega) (by omega), w64 (show -9223372036854775808 ≤ a + n - n by omega) (by omega), if_pos (by omega), if_pos (by omega), if_pos (by omega)]
 congr 2
 conv => rhs; rw [h.rest]
 rw [ByteArray.extract_extract]
 congr 1
 · omega
 · omega
end Go.Proofs.YtfgnjndfnijjoaaGreat.LibD
end
section
namespace Go.Proofs.YtfgnjndfnijjoaaGreat.LibE
open Go.RowKit Go.Proofs.YtfgnjndfnijjoaaGreat.Print Go.Proofs.YtfgnjndfnijjoaaGreatW.PrintWords Go.Proofs.YtfgnjndfnijjoaaGreatW.PrintLast Go.Proofs.YtfgnjndfnijjoaaGreatW.PrintMore Go.Proofs.YtfgnjndfnijjoaaGreat.LibA Go.Proofs.YtfgnjndfnijjoaaGreat.LibB Go.Proofs.YtfgnjndfnijjoaaGreat.LibC Go.Proofs.YtfgnjndfnijjoaaGreat.LibD
def ig : ByteArray := ⟨#[]⟩
end Go.Proofs.YtfgnjndfnijjoaaGreat.LibE
end
section
namespace Go.Proofs.YtfgnjndfnijjoaaGreat.LibF
open Go.RowKit Go.Proofs.YtfgnjndfnijjoaaGreat.Print Go.Proofs.YtfgnjndfnijjoaaGreatW.PrintWords Go.Proofs.YtfgnjndfnijjoaaGreatW.PrintLast Go.Proofs.YtfgnjndfnijjoaaGreatW.PrintMore Go.Proofs.YtfgnjndfnijjoaaGreat.LibA Go.Proofs.YtfgnjndfnijjoaaGreat.LibB
theorem qd {s t : ByteArray} {d : Int} (h0 : 0 ≤ d) (h1 : d < s.size) : bt (s ++ t) d = bt s d := by
 unfold bt; rw [dif_pos (by rw [ByteArray.size_append]; omega), dif_pos (by omega)]; rw [ByteArray.getElem_append_left (by omega)]
theorem tW {s t : ByteArray} {d : Int} (h0 : 0 ≤ d) (h1 : d < t.size) : bt (s ++ t) (s.size + d) = bt t d := by
 unfold bt; rw [dif_pos (by rw [ByteArray.size_append]; omega), dif_pos (by omega)]; rw [ByteArray.getElem_append_right (by omega)]; have e : ((s.size : Int) + d).toNat - s.size = d.toNat := by omega
 simp only [e]
end Go.Proofs.YtfgnjndfnijjoaaGreat.LibF
end
section
namespace Go.Proofs.YtfgnjndfnijjoaaGreat.LibG
open Go.RowKit Go.Proofs.YtfgnjndfnijjoaaGreat.Print Go.Proofs.YtfgnjndfnijjoaaGreatW.PrintWords Go.Proofs.YtfgnjndfnijjoaaGreatW.PrintLast Go.Proofs.YtfgnjndfnijjoaaGreatW.PrintMore Go.Proofs.YtfgnjndfnijjoaaGreat.LibA Go.Proofs.YtfgnjndfnijjoaaGreat.LibB Go.Proofs.YtfgnjndfnijjoaaGreat.LibC Go.Proofs.YtfgnjndfnijjoaaGreat.LibD Go.Proofs.YtfgnjndfnijjoaaGreat.LibE Go.Proofs.YtfgnjndfnijjoaaGreat.LibF
theorem tX {a b : ByteArray} (hs : a.size = b.size) (h : ∀ i : Int, 0 ≤ i → i < a.size → bt a i = bt b i) : a = b := by
 apply ByteArray.ext
 apply Array.ext hs
 intro i h1 h2; have := h i (by omega) (by have : i < a.size := h1; omega); unfold bt at this; rw [dif_pos (by have : i < a.size := h1; omega), dif_pos (by have : i < b.size := h2; omega)] at this; have e : (a[((i : Nat) : Int).toNat]'(by have : i < a.size := h1; omega)) = (b[((i : Nat) : Int).toNat]'(by have : i < b.size := h2; omega)) := UInt8.toNat_inj.mp (by omega)
 simpa [ByteArray.getElem_eq_getElem_data] using e
theorem Df {xs : List Int} (hx : ∀ x ∈ xs, 0 ≤ x ∧ x < 256) {i : Nat} (hi : i < xs.length) : bt (strOfNums xs) i = xs[i] := by
 unfold bt; rw [dif_pos (by rw [strOfNums_size]; omega)]; have := hx xs[i] (List.getElem_mem hi); simp only [strOfNums, ByteArray.getElem_eq_getElem_data, Int.toNat_natCast, List.getElem_toArray, List.getElem_map]; rw [UInt8.toNat_ofNat']
 omega
theorem sK : ∀ (d : Nat) (x : Int), 0 ≤ x → x < 128 ^ (d + 1) → ∀ y ∈ eY d x, 0 ≤ y ∧ y < 256
  | 0, x, h0, h1, y, hy => by
    simp [eY] at hy
    subst hy
    omega
  | d + 1, x, h0, h1, y, hy => by
    unfold eY at hy
    split at hy
    · rcases List.mem_cons.mp hy with rfl | hy
      · omega
      · refine sK d (x / 128) (by omega) ?_ y hy
        rw [Int.pow_succ] at h1
        exact Int.ediv_lt_of_lt_mul (by omega) h1
    · simp at hy
      subst hy
      omega
theorem Gk {a b : Nat} (h : a ≤ b) : (128 : Int) ^ a ≤ 128 ^ b := by
 induction h with
 | refl => exact Int.le_refl _
 | @step m _ ih => rw [Int.pow_succ]; have : (0 : Int) < 128 ^ a := Int.pow_pos (by decide); omega
theorem pow_pos (n : Nat) : (0 : Int) < 128 ^ n := Int.pow_pos (by decide)
theorem Dg (s : ByteArray) : ∀ (d k : Nat) (i acc x : Int), 0 ≤ x → x < 128 ^ (d + 1) → 0 ≤ i → (i = 0 ∨ 0 < x) → x * 128 ^ i.toNat < 18446744073709551616 → d + 1 ≤ k → i + (eY d x).length ≤ s.size →
    (∀ j (hj : j < (eY d x).length), bt s (i + j) = (eY d x)[j]) → fo s k i acc = (0, acc + x * 128 ^ i.toNat, i + (eY d x).length)
  | d, 0, _, _, _, _, _, _, _, _, hk, _, _ => by omega
  | d, k + 1, i, acc, x, h0, h1, hi0, hx, h64, hk, hs, hb => by
    have hl := nU d x
    have hb0 := hb 0 (by omega)
    simp only [Int.add_zero, Int.natCast_zero] at hb0
    have h9 : i < 10 → (i < 9 ∨ x ≤ 1) := fun h => by
      by_cases h9 : i < 9
      · exact .inl h9
      · right
        have : i.toNat = 9 := by omega
        rw [this] at h64
        omega
    have h10 : ¬ i < 10 → x = 0 := fun h => by
      have h2 : (128 : Int) ^ 10 ≤ 128 ^ i.toNat := Gk (by omega)
      by_cases hx0 : x = 0
      · exact hx0
      · have : 1 * 128 ^ i.toNat ≤ x * 128 ^ i.toNat := Int.mul_le_mul_of_nonneg_right (by omega) (by omega)
        omega
    simp only [fo]
    rw [if_pos (by omega)]
    by_cases hbig : x ≥ 128
    · have h8 : i < 9 := by
        by_cases h : i < 10
        · have := h9 h; omega
        · have := h10 h; omega
      cases d with
      | zero => simp at h1; omega
      | succ d =>
        have hp : eY (d + 1) x = (x % 128 + 128) :: eY d (x / 128) := by show (if x ≥ 128 then _ else _) = _; rw [if_pos hbig]
        have hc : bt s i = x % 128 + 128 := by rw [hb0]; simp only [hp, List.getElem_cons_zero]
        rw [hc, if_pos ⟨.inl h8, .inr (by omega)⟩, if_neg (by omega)]
        have e1 : (x % 128 + 128) % 128 = x % 128 := by omega
        have e2 : (128 : Int) ^ (i + 1).toNat = 128 ^ i.toNat * 128 := by rw [show (i + 1).toNat = i.toNat + 1 by omega, Int.pow_succ]
        have e3 : x * 128 ^ i.toNat = x % 128 * 128 ^ i.toNat + x / 128 * (128 ^ i.toNat * 128) := by
          have h := Int.emod_add_mul_ediv x 128
          conv => lhs; rw [← h]
          rw [Int.add_mul, Int.mul_comm 128 (x / 128), Int.mul_assoc, Int.mul_comm 128 (128 ^ i.toNat)]
        have hm : 0 ≤ x % 128 * 128 ^ i.toNat := Int.mul_nonneg (by omega) (by have := pow_pos i.toNat; omega)
        have := Dg s d k (i + 1) (acc + (x % 128 + 128) % 128 * 128 ^ i.toNat) (x / 128) (by omega) (by rw [Int.pow_succ] at h1; exact Int.ediv_lt_of_lt_mul (by omega) h1) (by omega) (.inr (by omega)) (by rw [e2]; omega) (by omega) (by rw [hp, List.length_cons] at hs; omega)
          (fun j hj => by
            have := hb (j + 1) (by rw [hp, List.length_cons]; omega)
            simp only [hp, List.getElem_cons_succ] at this
            rw [← this]
            congr 1
            omega)
        rw [this, hp, List.length_cons, e1, e2, e3]
        simp only [Prod.mk.injEq, true_and]
        constructor <;> omega
    · have hp : eY d x = [x] := by
        cases d with
        | zero => rfl
        | succ d => show (if x ≥ 128 then _ else _) = _; rw [if_neg hbig]
      have hc : bt s i = x := by rw [hb0]; simp only [hp, List.getElem_cons_zero]
      have hcond : i < 9 ∨ x ≤ 1 := by
        by_cases h : i < 10
        · exact h9 h
        · right; rw [h10 h]; decide
      rw [hc, if_pos ⟨hcond, by omega⟩, if_pos (by omega), hp, show x % 128 = x by omega]
      rfl
theorem zn (s : ByteArray) : ∀ (k : Nat) (i acc : Int), 0 ≤ i → i + (k + 1 : Nat) = 10 → (fo s (k + 1) i acc).1 = 0 →
    ∃ x : Int, 0 ≤ x ∧ x < 128 ^ (k + 1) ∧ (i = 0 ∨ 0 < x) ∧ (fo s (k + 1) i acc).2.1 = acc + x * 128 ^ i.toNat ∧ (fo s (k + 1) i acc).2.2 = i + (eY k x).length ∧ i + (eY k x).length ≤ s.size ∧ ∀ j (hj : j < (eY k x).length), bt s (i + j) = (eY k x)[j]
  | k, i, acc, hi, hk, h => by
    simp only [fo] at h ⊢
    have hr := oZ s i
    by_cases hlt : i < (s.size : Int)
    · rw [if_pos hlt] at h ⊢
      by_cases hok : (i < 9 ∨ bt s i ≤ 1) ∧ (i = 0 ∨ bt s i ≠ 0)
      · rw [if_pos hok] at h ⊢
        by_cases hb : bt s i < 128
        · rw [if_pos hb] at h ⊢
          have hp : eY k (bt s i) = [bt s i] := by
            cases k with
            | zero => rfl
            | succ d => show (if bt s i ≥ 128 then _ else _) = _; rw [if_neg (by omega)]
          refine ⟨bt s i, hr.1, ?_, by omega, by rw [show bt s i % 128 = bt s i by omega], by rw [hp]; rfl, by rw [hp]; simp; omega, fun j hj => ?_⟩
          · have : (128 : Int) ^ 1 ≤ 128 ^ (k + 1) := Gk (by omega)
            omega
          · simp only [hp, List.length_singleton] at hj ⊢
            have : j = 0 := by omega
            subst this
            simp
        · rw [if_neg hb] at h ⊢
          cases k with
          | zero => omega
          | succ k =>
            obtain ⟨x, h1, h2, h3, h4, h5, h6, h7⟩ := zn s k (i + 1) _ (by omega) (by omega) h
            have hx : 0 < x := by omega
            have hp : eY (k + 1) (x * 128 + bt s i % 128) = bt s i :: eY k x := by
              show (if x * 128 + bt s i % 128 ≥ 128 then ((x * 128 + bt s i % 128) % 128 + 128) :: eY k ((x * 128 + bt s i % 128) / 128) else _) = _
              rw [if_pos (by omega), show (x * 128 + bt s i % 128) / 128 = x by omega, show (x * 128 + bt s i % 128) % 128 + 128 = bt s i by omega]
            refine ⟨x * 128 + bt s i % 128, by omega, by rw [Int.pow_succ]; omega, .inr (by omega), ?_, ?_, ?_, ?_⟩
            · rw [h4, show (i + 1).toNat = i.toNat + 1 by omega, Int.pow_succ, Int.add_mul, Int.mul_assoc, Int.mul_comm 128 (128 ^ i.toNat)]
              omega
            · rw [h5, hp, List.length_cons]; omega
            · rw [hp, List.length_cons]; omega
            · intro j hj
              cases j with
              | zero => simp only [hp, List.getElem_cons_zero]; simp
              | succ j =>
                rw [hp, List.length_cons] at hj
                simp only [hp, List.getElem_cons_succ]
                rw [← h7 j (by omega)]
                congr 1
                omega
      · rw [if_neg hok] at h
        cases h
    · rw [if_neg hlt] at h
      cases h
theorem BS (x : Int) (h0 : 0 ≤ x) (h1 : x < 18446744073709551616) (t : ByteArray) : fo (strOfNums (eY 9 x) ++ t) 10 0 0 = ((0, x, ((eY 9 x).length : Int)) : Int × Int × Int) := by
  have hx : x < 128 ^ (9 + 1) := by omega
  have hs : (strOfNums (eY 9 x)).size = (eY 9 x).length := strOfNums_size _
  have := Dg (strOfNums (eY 9 x) ++ t) 9 10 0 0 x h0 hx (by omega) (.inl rfl) (by simpa using h1) (by omega) (by rw [ByteArray.size_append, hs]; omega) (fun j hj => by
    rw [Int.zero_add, qd (by omega) (by rw [hs]; omega)]
    exact Df (sK 9 x h0 hx) hj)
  rw [this]
  simp
theorem I4 (s : ByteArray) (h : (fo s 10 0 0).1 = 0) : s.extract 0 (fo s 10 0 0).2.2.toNat = strOfNums (eY 9 (fo s 10 0 0).2.1) := by
 obtain ⟨x, h1, h2, _, h4, h5, h6, h7⟩ := zn s 9 0 0 (by omega) (by omega) h; have e4 : (fo s 10 0 0).2.1 = x := by simpa using h4
 have e5 : (fo s 10 0 0).2.2 = (eY 9 x).length := by simpa using h5
 have h6' : (eY 9 x).length ≤ s.size := by omega
 rw [e4, e5, Int.toNat_natCast]; refine tX (by rw [size_take h6', strOfNums_size]) (fun i h0 hi => ?_); rw [size_take h6'] at hi; obtain ⟨j, rfl⟩ := Int.eq_ofNat_of_zero_le h0; rw [yQ h6' h0 hi, Df (sK 9 x h1 h2) (by omega)]; have := h7 j (by omega)
 rwa [Int.zero_add] at this
theorem rP (a b : ByteArray) : (a ++ b).extract a.size (a ++ b).size = b := by
 refine tX (by rw [ByteArray.size_extract, ByteArray.size_append]; omega) (fun i h0 hi => ?_); rw [ByteArray.size_extract, ByteArray.size_append] at hi; rw [yR (Nat.le_refl _) h0 (by rw [ByteArray.size_append]; omega), tW h0 (by omega)]
theorem BU (a b : ByteArray) : (a ++ b).extract 0 a.size = a := by
 have hs : a.size ≤ (a ++ b).size := by rw [ByteArray.size_append]; omega
 refine tX (size_take hs) (fun i h0 hi => ?_); rw [size_take hs] at hi; rw [yQ hs h0 (by omega), qd h0 (by omega)]
theorem take_drop (s : ByteArray) (n : Nat) (hn : n ≤ s.size) : s.extract 0 n ++ s.extract n s.size = s := by
 refine tX (by rw [ByteArray.size_append, size_take hn, ByteArray.size_extract]; omega) (fun i h0 hi => ?_); rw [ByteArray.size_append, size_take hn, ByteArray.size_extract] at hi
 by_cases h : i < n
 · rw [qd h0 (by rw [size_take hn]; exact h), yQ hn h0 h]
 ·
  obtain ⟨j, rfl⟩ : ∃ j, i = ((s.extract 0 n).size : Int) + j := ⟨i - n, by rw [size_take hn]; omega⟩; rw [size_take hn] at h hi; rw [tW (by omega) (by rw [ByteArray.size_extract]; omega), yR (Nat.le_refl _) (by omega) (by omega), size_take hn]
theorem BV (t u : ByteArray) (a : ByteArray) (most : Int) (hm0 : 0 ≤ most) (hm1 : most ≤ 9223372036854775807) (ht : (t.size : Int) ≤ most) (hs : (a ++ ((strOfNums (eY 9 t.size) ++ t) ++ u)).size ≤ 140737488351232) (k : Nat) (hk : (a ++ ((strOfNums (eY 9 t.size) ++ t) ++ u)).size + 60 ≤ k) :
    cr.f k (a ++ ((strOfNums (eY 9 t.size) ++ t) ++ u)) a.size most = some (if Vld t then (t, ((a.size + (strOfNums (eY 9 t.size) ++ t).size : Nat) : Int), 0) else (ig, 0, 4)) := by
 obtain ⟨k, rfl⟩ : ∃ m, k = m + 2 := ⟨k - 2, by omega⟩; have hz : (a ++ ((strOfNums (eY 9 t.size) ++ t) ++ u)).size = a.size + ((eY 9 t.size).length + t.size + u.size) := by simp only [ByteArray.size_append, strOfNums_size]
 have hl := nU 9 (t.size : Int)
 have hrest : (a ++ ((strOfNums (eY 9 t.size) ++ t) ++ u)).extract (a.size : Int).toNat (a ++ ((strOfNums (eY 9 t.size) ++ t) ++ u)).size = strOfNums (eY 9 t.size) ++ (t ++ u) := by
  rw [Int.toNat_natCast, rP, ByteArray.append_assoc]
 have hnum := BS (t.size : Int) (by omega) (by omega) (t ++ u); have hnb : (strOfNums (eY 9 t.size) ++ (t ++ u)).size = (eY 9 t.size).length + (t.size + u.size) := by simp only [ByteArray.size_append, strOfNums_size]
 unfold cr.f; rw [if_neg (by omega), decide_eq_false (by omega)]; simp only [cr.j0, Bool.false_eq_true, if_false, eD.f, Option.bind_some]; rw [if_pos (by omega), if_pos (by omega), hrest]
 have hN : aJ.f (strOfNums (eY 9 t.size) ++ (t ++ u)) 0 = some ((t.size : Int), t ++ u, 0) := by
  unfold aJ.f; rw [if_pos (by omega), if_pos rfl, hnum, if_pos rfl]
  congr 3
  rw [Int.toNat_natCast]; have := rP (strOfNums (eY 9 t.size)) (t ++ u)
  rwa [strOfNums_size] at this
 rw [hN]; simp only [Option.bind_some, bh.f, if_true]; rw [if_neg (show ¬ most < 0 by omega), decide_eq_false (show ¬ (t.size : Int) > IntKind.u64.wrap most by rw [gv most (by omega) (by omega)]; omega)]; simp only [cr.j1, Bool.false_eq_true, if_false, aV.f, Option.bind_some]; have htu : (t ++ u).size = t.size + u.size := ByteArray.size_append; rw [gv _ (by omega) (by omega), if_neg (by omega), w64 (n := (t.size : Int)) (by omega) (by omega)]
 have hT : dw.f (t ++ u) 0 (t.size : Int) = some (t, u, 0) := by
  unfold dw.f; rw [if_pos rfl, if_pos ⟨by omega, by omega⟩, Int.toNat_natCast, BU, rP]
 rw [hT]; simp only [Option.bind_some]; rw [tV t (by omega)]; simp only [Option.bind_some, decide_eq_true_eq]
 split
 ·
  rw [w64 (by omega) (by omega)]
  congr 3
  simp only [ByteArray.size_append, strOfNums_size]
  omega
 · rfl
end Go.Proofs.YtfgnjndfnijjoaaGreat.LibG
end
section
namespace Go.Proofs.YtfgnjndfnijjoaaGreat.RowsA
set_option linter.unusedSimpArgs false
set_option linter.unusedVariables false
open Go.RowKit Go.Proofs.YtfgnjndfnijjoaaGreat.Print Go.Proofs.YtfgnjndfnijjoaaGreatW.PrintWords Go.Proofs.YtfgnjndfnijjoaaGreatW.PrintLast Go.Proofs.YtfgnjndfnijjoaaGreatW.PrintMore Go.Proofs.YtfgnjndfnijjoaaGreat.LibA Go.Proofs.YtfgnjndfnijjoaaGreat.LibB Go.Proofs.YtfgnjndfnijjoaaGreat.LibC Go.Proofs.YtfgnjndfnijjoaaGreat.LibD Go.Proofs.YtfgnjndfnijjoaaGreat.LibE Go.Proofs.YtfgnjndfnijjoaaGreat.LibF Go.Proofs.YtfgnjndfnijjoaaGreat.LibG
abbrev Mv := S51
abbrev rdM (l : List Mv) (i : Int) : Mv := aa l i
theorem Ev.succ {α : Type} {g : Nat → Option α} {r : α} (h : Ev (fun k => g (k + 1)) r) : Ev g r := Ev.step (fun _ => rfl) h
theorem Ev.all {α : Type} {g : Nat → Option α} {r : α} (K : Nat) (h : ∀ k, K ≤ k → g k = some r) : Ev g r := ⟨K, h⟩
theorem Ev.det {α : Type} {g : Nat → Option α} {r q : α} (h : Ev g r) (h' : Ev g q) : r = q := by
 obtain ⟨a, ha⟩ := h; obtain ⟨b, hb⟩ := h'; have h1 := ha (a + b) (by omega); rw [hb (a + b) (by omega)] at h1; exact (Option.some.inj h1).symm
structure Fj (m : Mv) : Prop where
  c1 : 1 ≤ m.f0.f0
  c2 : m.f0.f0 ≤ 4611686018427387903
  r1 : 1 ≤ m.f0.f1
  r2 : m.f0.f1 ≤ 255
  k1 : 1 ≤ m.f2
  k2 : m.f2 ≤ 2147483647
  p1 : 0 ≤ m.f1
  p2 : m.f1 ≤ 2147483647
  nm : m.f3.size ≤ 64
  vl : Vld m.f3
noncomputable instance (m : Mv) : Decidable (Fj m) := Classical.propDecidable _
def BW (a b : Mv) : Prop := um a.f0.f0 a.f0.f1 b.f0.f0 b.f0.f1 = true
structure Nc (l : List Mv) : Prop where
  few : l.length ≤ 2000
  one : ∀ m ∈ l, Fj m
  up : ∀ i : Nat, 0 < i → i < l.length → BW (rdM l ((i : Int) - 1)) (rdM l i)
noncomputable instance (l : List Mv) : Decidable (Nc l) := Classical.propDecidable _
def UpP (l : List Mv) (i : Nat) : Prop := ∀ j : Nat, i ≤ j → j < l.length → BW (rdM l ((j : Int) - 1)) (rdM l j)
noncomputable instance (l : List Mv) (i : Nat) : Decidable (UpP l i) := Classical.propDecidable _
theorem Dh (l : List Mv) : Nc l ↔ UpP l 1 ∧ l.length ≤ 2000 ∧ ∀ m ∈ l, Fj m := ⟨fun h => ⟨fun j h1 h2 => h.up j (by omega) h2, h.few, h.one⟩, fun h => ⟨h.2.1, h.2.2, fun j h1 h2 => h.1 j (by omega) h2⟩⟩
structure Nf (l : List Mv) (i : Nat) : Prop where
  one : ∀ j : Nat, i ≤ j → j < l.length → Fj (rdM l j)
  up : ∀ j : Nat, 0 < j → i ≤ j → j < l.length → BW (rdM l ((j : Int) - 1)) (rdM l j)
noncomputable instance (l : List Mv) (i : Nat) : Decidable (Nf l i) := Classical.propDecidable _
end Go.Proofs.YtfgnjndfnijjoaaGreat.RowsA
end
section
namespace Go.Proofs.YtfgnjndfnijjoaaGreat.LibU
open Go.RowKit Go.Proofs.YtfgnjndfnijjoaaGreat.Print Go.Proofs.YtfgnjndfnijjoaaGreatW.PrintWords Go.Proofs.YtfgnjndfnijjoaaGreatW.PrintLast Go.Proofs.YtfgnjndfnijjoaaGreatW.PrintMore
def qe (acc : List cB) (x : Int) : List cB :=
  match acc.getLast? with
  | some r => if r.f0 = x then acc.dropLast ++ [(⟨r.f0, r.f1 + 1⟩ : cB)] else acc ++ [(⟨x, 1⟩ : cB)]
  | none => [(⟨x, 1⟩ : cB)]
theorem pW (a : List cB) (r : cB) (x : Int) : qe (a ++ [r]) x = if r.f0 = x then a ++ [(⟨r.f0, r.f1 + 1⟩ : cB)] else a ++ [r] ++ [(⟨x, 1⟩ : cB)] := by
 unfold qe
 simp
def runs (l : List Int) : List cB := l.foldl qe []
def spread (rs : List cB) : List Int := rs.flatMap fun r => List.replicate r.f1.toNat r.f0
theorem kJ (a : List cB) (r : cB) : spread (a ++ [r]) = spread a ++ List.replicate r.f1.toNat r.f0 := by simp [spread]
inductive gC : List cB → Prop
  | nil : gC []
  | one (r : cB) (h : 1 ≤ r.f1) : gC [r]
  | snoc (a : List cB) (q r : cB) (h : gC (a ++ [q])) (h1 : 1 ≤ r.f1) (hne : q.f0 ≠ r.f0) : gC (a ++ [q] ++ [r])
theorem jP {α : Type} (l : List α) : l = [] ∨ ∃ a x, l = a ++ [x] := by
 rcases List.eq_nil_or_concat l with h | ⟨a, x, h⟩
 · exact .inl h
 · exact .inr ⟨a, x, by simpa using h⟩
theorem kY {α : Type} {a b : List α} {x y : α} (h : a ++ [x] = b ++ [y]) : a = b ∧ x = y := by
 have := List.append_inj' h rfl
 simpa using this
theorem gC.last {a : List cB} {r : cB} (h : gC (a ++ [r])) : 1 ≤ r.f1 := by
 generalize hl : a ++ [r] = l at h
 cases h with
 | nil => simp at hl
 | one q hq => obtain ⟨_, rfl⟩ := kY (b := []) hl; exact hq
 | snoc b q s h h1 hne => obtain ⟨_, rfl⟩ := kY hl; exact h1
theorem gC.init {a : List cB} {r : cB} (h : gC (a ++ [r])) : gC a := by
 generalize hl : a ++ [r] = l at h
 cases h with
 | nil => simp at hl
 | one q hq => obtain ⟨rfl, _⟩ := kY (b := []) hl; exact .nil
 | snoc b q s h h1 hne => obtain ⟨rfl, _⟩ := kY hl; exact h
theorem gC.ne {a : List cB} {q r : cB} (h : gC (a ++ [q] ++ [r])) : q.f0 ≠ r.f0 := by
 generalize hl : a ++ [q] ++ [r] = l at h
 cases h with
 | nil => simp at hl
 | one s hs => have := congrArg List.length hl; simp at this
 | snoc b q' s h h1 hne =>
  obtain ⟨e1, rfl⟩ := kY hl; obtain ⟨_, rfl⟩ := kY e1; exact hne
theorem gC.grow {a : List cB} {r : cB} (h : gC (a ++ [r])) (n : Int) (hn : 1 ≤ n) : gC (a ++ [(⟨r.f0, n⟩ : cB)]) := by
 rcases jP a with rfl | ⟨b, q, rfl⟩
 · exact .one _ hn
 · exact .snoc _ _ _ h.init hn h.ne
theorem gC.add {acc : List cB} (h : gC acc) (x : Int) : gC (qe acc x) := by
 rcases jP acc with rfl | ⟨a, r, rfl⟩
 · exact .one _ (Int.le_refl 1)
 ·
  rw [pW]
  split
  · exact h.grow _ (by have := h.last; omega)
  · exact .snoc _ _ _ h (Int.le_refl 1) (by assumption)
theorem Gl (l : List Int) : ∀ acc, gC acc → gC (l.foldl qe acc) := by
 induction l with
 | nil => intro acc h; exact h
 | cons x xs ih => intro acc h; exact ih _ (h.add x)
theorem BX (l : List Int) : gC (runs l) := Gl l [] .nil
theorem Fk {acc : List cB} (h : gC acc) (x : Int) : spread (qe acc x) = spread acc ++ [x] := by
 rcases jP acc with rfl | ⟨a, r, rfl⟩
 · rfl
 ·
  rw [pW]
  split
  ·
   rename_i he
   have := h.last; rw [kJ, kJ, show (r.f1 + 1).toNat = r.f1.toNat + 1 by omega, List.replicate_succ', ← List.append_assoc, he]
  · rw [kJ]; rfl
theorem BZ (l : List Int) : ∀ acc, gC acc → spread (l.foldl qe acc) = spread acc ++ l := by
 induction l with
 | nil => intro acc h; simp
 | cons x xs ih => intro acc h; rw [List.foldl_cons, ih _ (h.add x), Fk h, List.append_assoc]; rfl
theorem qf (l : List Int) : spread (runs l) = l := by unfold runs; rw [BZ l [] .nil]; rfl
theorem vI (a : List cB) (x : Int) (h : a = [] ∨ ∃ b q, a = b ++ [q] ∧ q.f0 ≠ x) : ∀ n : Nat, (List.replicate (n + 1) x).foldl qe a = a ++ [(⟨x, (n : Int) + 1⟩ : cB)]
  | 0 => by
    rcases h with rfl | ⟨b, q, rfl, hq⟩
    · rfl
    · show qe (b ++ [q]) x = _
      rw [pW, if_neg hq]; rfl
  | n + 1 => by
    rw [List.replicate_succ', List.foldl_append, vI a x h n]
    show qe _ x = _
    rw [pW, if_pos rfl]
    simp
theorem CM {rs : List cB} (h : gC rs) : runs (spread rs) = rs := by
 induction h with
 | nil => rfl
 | one r h =>
  have := vI [] r.f0 (.inl rfl) (r.f1.toNat - 1); rw [show r.f1.toNat - 1 + 1 = r.f1.toNat by omega, show (((r.f1.toNat - 1 : Nat) : Int) + 1) = r.f1 by omega] at this
  simpa [runs, spread] using this
 | snoc a q r h h1 hne ih =>
  have := vI (a ++ [q]) r.f0 (.inr ⟨a, q, rfl, hne⟩) (r.f1.toNat - 1); rw [show r.f1.toNat - 1 + 1 = r.f1.toNat by omega, show (((r.f1.toNat - 1 : Nat) : Int) + 1) = r.f1 by omega] at this; rw [kJ]; unfold runs at ih ⊢; rw [List.foldl_append, ih, this]
end Go.Proofs.YtfgnjndfnijjoaaGreat.LibU
end
section
namespace Go.Proofs.YtfgnjndfnijjoaaGreat.LibV
open Go.RowKit Go.Proofs.YtfgnjndfnijjoaaGreat.Print Go.Proofs.YtfgnjndfnijjoaaGreatW.PrintWords Go.Proofs.YtfgnjndfnijjoaaGreatW.PrintLast Go.Proofs.YtfgnjndfnijjoaaGreatW.PrintMore Go.Proofs.YtfgnjndfnijjoaaGreat.LibU
theorem w64 {n : Int} (h0 : -9223372036854775808 ≤ n) (h1 : n ≤ 9223372036854775807) : wrap64 n = n := by unfold wrap64; omega
end Go.Proofs.YtfgnjndfnijjoaaGreat.LibV
end
section
namespace Go.Proofs.YtfgnjndfnijjoaaGreat.LibW
open Go.RowKit Go.Proofs.YtfgnjndfnijjoaaGreat.Print Go.Proofs.YtfgnjndfnijjoaaGreatW.PrintWords Go.Proofs.YtfgnjndfnijjoaaGreatW.PrintLast Go.Proofs.YtfgnjndfnijjoaaGreatW.PrintMore Go.Proofs.YtfgnjndfnijjoaaGreat.LibU Go.Proofs.YtfgnjndfnijjoaaGreat.LibV Go.Proofs.YtfgnjndfnijjoaaGreat.LibC Go.Proofs.YtfgnjndfnijjoaaGreat.LibE Go.Proofs.YtfgnjndfnijjoaaGreat.LibG
theorem rd_at (l : List Int) (i : Nat) (h : i < l.length) : rd l (i : Int) = l[i] := by simp [rd, List.getD_eq_getElem?_getD, h]
theorem Lb (l : List cB) (i : Nat) (h : i < l.length) : bn l (i : Int) = l[i] := by simp [bn, List.getD_eq_getElem?_getD, h]
theorem Dh (rs : List cB) : gC rs ↔ (∀ (i : Nat) (h : i < rs.length), 1 ≤ rs[i].f1) ∧ ∀ (i : Nat) (h : i + 1 < rs.length), rs[i].f0 ≠ rs[i + 1].f0 := by
  constructor
  · intro h
    induction h with
    | nil => exact ⟨fun i h => absurd h (by simp), fun i h => absurd h (by simp)⟩
    | one r h => exact ⟨fun i hi => by obtain rfl : i = 0 := by simpa using hi
                                       exact h, fun i hi => by simp at hi⟩
    | snoc a q r h h1 hne ih =>
      refine ⟨fun i hi => ?_, fun i hi => ?_⟩
      · by_cases hc : i < (a ++ [q]).length
        · rw [List.getElem_append_left hc]; exact ih.1 i hc
        · rw [List.getElem_append_right (by omega)]; simpa using h1
      · by_cases hc : i + 1 < (a ++ [q]).length
        · rw [List.getElem_append_left (by omega), List.getElem_append_left hc]; exact ih.2 i hc
        · have hz : (a ++ [q]).length = a.length + 1 := by simp
          have hz2 : (a ++ [q] ++ [r]).length = a.length + 2 := by simp
          obtain rfl : i = a.length := by omega
          rw [List.getElem_append_left (by omega), List.getElem_append_right (by omega)]
          simpa using hne
  · obtain ⟨n, hn⟩ : ∃ n, n = rs.length := ⟨_, rfl⟩
    induction n generalizing rs with
    | zero => intro _; rw [List.length_eq_zero_iff.mp hn.symm]; exact .nil
    | succ n ih =>
      rintro ⟨h1, h2⟩
      rcases jP rs with rfl | ⟨b, r, rfl⟩
      · exact .nil
      · have hz : (b ++ [r]).length = b.length + 1 := by simp
        rcases jP b with rfl | ⟨a, q, rfl⟩
        · exact .one r (by have := h1 0 (by simp); simpa using this)
        · have hz3 : (a ++ [q]).length = a.length + 1 := by simp
          refine .snoc a q r (ih _ (by omega) ⟨fun i hi => ?_, fun i hi => ?_⟩) ?_ ?_
          · have := h1 i (by omega)
            rwa [List.getElem_append_left (by omega)] at this
          · have := h2 i (by omega)
            rwa [List.getElem_append_left (by omega), List.getElem_append_left (bs := [r]) hi] at this
          · have := h1 (a ++ [q]).length (by omega)
            rw [List.getElem_append_right (by omega)] at this
            simpa using this
          · have := h2 a.length (by omega)
            rw [List.getElem_append_left (by omega), List.getElem_append_right (by omega)] at this
            simpa using this
def sL (most : Int) : List cB → List Int → List Int × Bool
  | [], out => (out, true)
  | r :: rs, out => if r.f1 > most - out.length then ([], false) else sL most rs (out ++ List.replicate r.f1.toNat r.f0)
theorem Lc (l : List cB) (i : Nat) (h : i < l.length) : l.drop i = l[i] :: l.drop (i + 1) := List.drop_eq_getElem_cons h
theorem vJ (rs : List cB) (most : Int) (hl : (rs.length : Int) ≤ 1000000000000) (hm : most ≤ 1000000) (hr : ∀ r ∈ rs, 0 ≤ r.f1) : ∀ (d k i : Nat) (out : List Int), i + d = rs.length → d + 1 ≤ k → (out.length : Int) ≤ most →
    bV.l0 k most out rs (rs.length : Int) (i : Int) = some (sL most (rs.drop i) out)
  | 0, k, i, out, hd, hk, ho => by
    obtain ⟨k, rfl⟩ : ∃ k', k = k' + 1 := ⟨k - 1, by omega⟩
    unfold bV.l0
    rw [if_neg (by omega), List.drop_eq_nil_of_le (by omega)]
    rfl
  | d + 1, k, i, out, hd, hk, ho => by
    obtain ⟨k, rfl⟩ : ∃ k', k = k' + 1 := ⟨k - 1, by omega⟩
    have hi : i < rs.length := by omega
    have h0 := hr rs[i] (List.getElem_mem hi)
    unfold bV.l0
    rw [if_pos (by omega), if_pos (by omega), if_pos (by omega), Lb rs i hi, Lc rs i hi, w64 (n := most - out.length) (by omega) (by omega), w64 (n := (i : Int) + 1) (by omega) (by omega)]
    unfold sL
    by_cases h : rs[i].f1 > most - out.length
    · rw [if_pos h, if_pos h]
    · rw [if_neg h, if_neg h]
      unfold fI.f
      rw [if_pos (by simp), if_pos (by omega)]
      simp only [Option.bind_some, List.length_replicate]
      rw [if_pos (by omega), show rd [rs[i].f0] 0 = rs[i].f0 from rfl, show (i : Int) + 1 = ((i + 1 : Nat) : Int) by omega]
      exact vJ rs most hl hm hr d k (i + 1) _ (by omega) (by omega) (by rw [List.length_append, List.length_replicate]; omega)
theorem Ld (n : Nat) (x : Int) (out : List Int) : out ++ [x] ++ List.replicate n x = out ++ List.replicate (n + 1) x := by
 rw [List.append_assoc, List.replicate_succ]; rfl
noncomputable def kA (rs : List cB) (most : Int) : List Int × Bool := by
  classical exact if gC rs ∧ ((spread rs).length : Int) ≤ most then (spread rs, true) else ([], false)
theorem gC.pos {rs : List cB} (h : gC rs) : ∀ r ∈ rs, 1 ≤ r.f1 := fun r hr => by
  obtain ⟨i, hi, rfl⟩ := List.getElem_of_mem hr
  exact ((Dh rs).mp h).1 i hi
noncomputable def put (x : Int) : ByteArray := strOfNums (eY 9 x)
theorem put_size (x : Int) : 1 ≤ (put x).size ∧ (put x).size ≤ 10 := by
 have := nU 9 x; unfold put; rw [strOfNums_size]
 omega
noncomputable def kZ : List cB → ByteArray
  | [] => ig
  | r :: rs => (put r.f0 ++ put r.f1) ++ kZ rs
theorem no_app (a : ByteArray) : ig ++ a = a := by
 apply ByteArray.ext
 simp [ig]
theorem app_no (a : ByteArray) : a ++ ig = a := by
 apply ByteArray.ext
 simp [ig]
theorem put_both (x : Int) (h0 : 0 ≤ x) (h1 : x < 18446744073709551616) (k : Nat) (hk : 10 ≤ k) : bL.f k x = some (put x) ∧ fh.f k x = some (put x) := BR x h0 h1 k hk
def Wf (rs : List cB) : Prop := ∀ r ∈ rs, (0 ≤ r.f0 ∧ r.f0 < 18446744073709551616) ∧ 0 ≤ r.f1 ∧ r.f1 < 9223372036854775808
theorem Le {l : List Int} (hl : (l.length : Int) ≤ 1000000000000) (h : ∀ x ∈ l, 0 ≤ x ∧ x < 18446744073709551616) : Wf (runs l) := fun r hr => by
  have hp := gC.pos (BX l) r hr
  obtain ⟨a, b, hab⟩ := List.append_of_mem hr
  have hs := qf l
  rw [hab] at hs
  have hsp : spread (a ++ r :: b) = spread a ++ (List.replicate r.f1.toNat r.f0 ++ spread b) := by simp [spread]
  rw [hsp] at hs
  have hlen := congrArg List.length hs
  simp only [List.length_append, List.length_replicate] at hlen
  have hmem : r.f0 ∈ l := by
    rw [← hs]
    refine List.mem_append_right _ (List.mem_append_left _ ?_)
    rw [List.mem_replicate]
    exact ⟨by omega, rfl⟩
  exact ⟨h _ hmem, by omega, by omega⟩
end Go.Proofs.YtfgnjndfnijjoaaGreat.LibW
end
section
namespace Go.Proofs.YtfgnjndfnijjoaaGreat.LibX
open Go.RowKit Go.Proofs.YtfgnjndfnijjoaaGreat.Print Go.Proofs.YtfgnjndfnijjoaaGreatW.PrintWords Go.Proofs.YtfgnjndfnijjoaaGreatW.PrintLast Go.Proofs.YtfgnjndfnijjoaaGreatW.PrintMore Go.Proofs.YtfgnjndfnijjoaaGreat.LibU Go.Proofs.YtfgnjndfnijjoaaGreat.LibV Go.Proofs.YtfgnjndfnijjoaaGreat.LibW Go.Proofs.YtfgnjndfnijjoaaGreat.LibC Go.Proofs.YtfgnjndfnijjoaaGreat.LibD Go.Proofs.YtfgnjndfnijjoaaGreat.LibE Go.Proofs.YtfgnjndfnijjoaaGreat.LibG
def numT (s : ByteArray) : Int × ByteArray × Int := if (fo s 10 0 0).1 = 0 then ((fo s 10 0 0).2.1, s.extract (fo s 10 0 0).2.2.toNat s.size, 0) else (0, s, (fo s 10 0 0).1)
theorem num_numT (s : ByteArray) (hs : s.size ≤ 9223372036854775000) : aJ.f s 0 = some (numT s) := by
 unfold aJ.f numT; rw [if_pos hs, if_pos rfl]
 split <;> rfl
theorem num_err (s : ByteArray) (hs : s.size ≤ 9223372036854775000) {e : Int} (he : e ≠ 0) : aJ.f s e = some (0, s, e) := by
 unfold aJ.f; rw [if_pos hs, if_neg he]
theorem numT_size (s : ByteArray) : (numT s).2.1.size ≤ s.size := by
 unfold numT
 split
 · simp only [ByteArray.size_extract]; omega
 · exact Nat.le_refl _
theorem numT_range (s : ByteArray) (hs : s.size ≤ 9223372036854775000) : 0 ≤ (numT s).1 ∧ (numT s).1 < 18446744073709551616 ∧ ((numT s).2.2 = 0 → (numT s).2.1.size < s.size) := by
 obtain ⟨h1, h2⟩ := uD s 10 0 0 (by omega) (by omega) (by omega) (by omega) (by decide); unfold numT
 split
 ·
  rename_i h
  have := h1 h; exact ⟨this.1, this.2.1, fun _ => by simp only [ByteArray.size_extract]; omega⟩
 ·
  rename_i h
  exact ⟨Int.le_refl _, by show (0 : Int) < _; omega, fun h' => absurd h' h⟩
theorem numT_put (x : Int) (h0 : 0 ≤ x) (h1 : x < 18446744073709551616) (t : ByteArray) : numT (put x ++ t) = (x, t, 0) := by
 have h := BS x h0 h1 t; unfold numT put; rw [h, if_pos rfl]; have := rP (strOfNums (eY 9 x)) t; rw [strOfNums_size] at this; simp only [Int.toNat_natCast]; rw [this]
theorem numT_was (s : ByteArray) (hs : s.size ≤ 9223372036854775000) (h : (numT s).2.2 = 0) : s = put (numT s).1 ++ (numT s).2.1 := by
 obtain ⟨h1, h2⟩ := uD s 10 0 0 (by omega) (by omega) (by omega) (by omega) (by decide)
 have he : (fo s 10 0 0).1 = 0 := by
  unfold numT at h
  split at h
  · assumption
  · exact h
 have := h1 he; have h3 := I4 s he; have h4 := take_drop s (fo s 10 0 0).2.2.toNat (by omega); unfold numT put; rw [if_pos he]; simp only; rw [← h3, h4]
theorem noText_of {s : ByteArray} (h : s.size = 0) : s = ig := by
 refine tX (by rw [h]; rfl) (fun i h0 h1 => by omega)
def ou (rs : List cB) (v : Int) : Prop := ∃ a r, rs = a ++ [r] ∧ r.f0 = v
open Classical in
noncomputable def dR : Nat → ByteArray → List cB → Int → List cB × Int
  | 0, _, rs, _ => (rs, 99)
  | d + 1, s, rs, left =>
    if s.size = 0 then (if left > 0 then ([], 5) else (rs, 0)) else
    if (numT s).2.2 ≠ 0 then ([], (numT s).2.2) else
    if (numT (numT s).2.1).2.2 ≠ 0 then ([], (numT (numT s).2.1).2.2) else
    if (numT (numT s).2.1).1 = 0 ∨ (numT (numT s).2.1).1 > left ∨ ou rs (numT s).1 then ([], 5) else
    dR d (numT (numT s).2.1).2.1 (rs ++ [(⟨(numT s).1, (numT (numT s).2.1).1⟩ : cB)]) (left - (numT (numT s).2.1).1)
def fin (p : List cB × Int) : List Int × Int := if p.2 = 0 then (spread p.1, 0) else ([], p.2)
theorem B0 {rs : List cB} (h : gC rs) {v c : Int} (hc : 1 ≤ c) (hl : ¬ ou rs v) : gC (rs ++ [(⟨v, c⟩ : cB)]) := by
 rcases jP rs with rfl | ⟨a, q, rfl⟩
 · exact .one _ hc
 · exact .snoc _ _ _ h hc (fun he => hl ⟨a, q, rfl, he⟩)
theorem CN {rs : List cB} {r : cB} (h : gC (rs ++ [r])) : ¬ ou rs r.f0 := by
 rintro ⟨a, q, rfl, he⟩; exact h.ne he
theorem Gm : ∀ {b a : List cB}, gC (a ++ b) → gC a := fun {b} => by
  induction b with
  | nil => intro a h; simpa using h
  | cons x b ih =>
    intro a h
    have := ih (a := a ++ [x]) (by simpa using h)
    exact this.init
theorem uT (r : cB) (b : List cB) : spread (r :: b) = List.replicate r.f1.toNat r.f0 ++ spread b := by simp [spread]
theorem uU {rs : List cB} (h : gC rs) {v : Int} : ou rs v ↔ ∃ a, spread rs = a ++ [v] := by
 rcases jP rs with rfl | ⟨b, r, rfl⟩
 ·
  constructor
  · rintro ⟨a, q, he, _⟩; simp at he
  · rintro ⟨a, ha⟩; simp [spread] at ha
 ·
  have h1 := h.last
  have hs : spread (b ++ [r]) = (spread b ++ List.replicate (r.f1.toNat - 1) r.f0) ++ [r.f0] := by
   rw [kJ, List.append_assoc, ← List.replicate_succ', show r.f1.toNat - 1 + 1 = r.f1.toNat by omega]
  constructor
  ·
   rintro ⟨a, q, he, hv⟩; obtain ⟨rfl, rfl⟩ := kY he; exact ⟨_, hv ▸ hs⟩
  ·
   rintro ⟨a, ha⟩; rw [hs] at ha; exact ⟨b, r, rfl, (kY ha).2⟩
theorem w64' {x : Int} (h0 : 0 ≤ x) (h1 : x < 18446744073709551616) : IntKind.u64.wrap x = x := gv x h0 h1
noncomputable def fE (s : ByteArray) (n : Int) : List Int × Int := if n < 0 then ([], 1) else if n > 4096 then ([], 10) else fin (dR (s.size + 1) s [] n)
theorem Ca (n v : Int) (S : ByteArray) (a : Int) : ∀ (d k : Nat) (out : List Int) (c j : Int), 0 ≤ j → j + d = c → c ≤ 1000000 → d + 1 ≤ k → (out.length : Int) + d ≤ 1000000 →
    cH.l1 k n out v c j S a 0 = cH.l0 (k - (d + 1)) n (out ++ List.replicate d v) S a 0 := by
 intro d
 induction d with
 | zero =>
  intro k out c j h0 hd hc hk ho; obtain ⟨k, rfl⟩ : ∃ m, k = m + 1 := ⟨k - 1, by omega⟩; unfold cH.l1; rw [if_neg (by omega)]
  simp
 | succ d ih =>
  intro k out c j h0 hd hc hk ho; obtain ⟨k, rfl⟩ : ∃ m, k = m + 1 := ⟨k - 1, by omega⟩; unfold cH.l1; rw [if_pos (by omega), if_pos (by omega), w64' (x := j + 1) (by omega) (by omega), ih k _ c (j + 1) (by omega) (by omega) hc (by omega) (by simp; omega), Ld]
  congr 1
  omega
theorem Cb (n : Int) (hn0 : 0 ≤ n) (hn : n ≤ 4096) (S : ByteArray) (K : Nat) (hK : 1000002 ≤ K) : ∀ (d k : Nat) (s : ByteArray) (a : Int) (rs : List cB) (left : Int), s.size < d → Sim S a s → d * K + K ≤ k → gC rs → 0 ≤ left → left + (spread rs).length = n →
    cH.l0 k n (spread rs) S a 0 = some (fin (dR d s rs left)) := by
 intro d
 induction d with
 | zero => intro k s a rs left hd; omega
 | succ d ih =>
  intro k s a rs left hd hS hk hm h0 hl; obtain ⟨k, rfl⟩ : ∃ m, k = m + 1 := ⟨k - 1, by omega⟩; rw [Nat.succ_mul] at hk; have hsz := hS.size; have hlo := hS.lo; have hbig := hS.big; have hs : s.size ≤ 9223372036854775000 := by omega
  unfold cH.l0 dR; rw [(hS.left 0).2]; simp only [Option.bind_some]
  by_cases hz : s.size = 0
  ·
   rw [if_neg (by omega), if_pos hz]
   by_cases h1 : left > 0
   · rw [if_pos h1, if_pos (by omega)]; rfl
   · rw [if_neg h1, if_neg (by omega)]; rfl
  ·
   have r1 := numT_range s hs; have z1 := numT_size s; have r2 := numT_range (numT s).2.1 (by omega); have z2 := numT_size (numT s).2.1; rw [if_pos (by omega), if_neg hz]; obtain ⟨v, s1, e1', a1, hp, hr, hS1, _, _, _, _, _, hf1⟩ := hS.num 0; rw [num_numT s hs] at hp
   obtain ⟨hv1, hs1, he1⟩ : (numT s).1 = v ∧ (numT s).2.1 = s1 ∧ (numT s).2.2 = e1' := by
    have := Option.some.inj hp; rw [this]; exact ⟨rfl, rfl, rfl⟩
   rw [hr k (by omega)]; simp only [Option.bind_some]; rw [hs1] at r1 z1 r2 z2; rw [he1] at r1; rw [hv1] at r1; rw [hs1, he1, hv1]
   by_cases e1 : e1' = 0
   ·
    rw [if_neg (c := _ ≠ _) (fun h => h e1), e1]; obtain ⟨c, s2, e2', a2, hp2, hr2, hS2, _, _, _, _, _, hf2⟩ := hS1.num 0; rw [num_numT s1 (by omega)] at hp2
    obtain ⟨hv2, hs2, he2⟩ : (numT s1).1 = c ∧ (numT s1).2.1 = s2 ∧ (numT s1).2.2 = e2' := by
     have := Option.some.inj hp2; rw [this]; exact ⟨rfl, rfl, rfl⟩
    rw [hr2 k (by omega)]; simp only [Option.bind_some]; rw [hs2, hv2, he2] at r2; rw [hs2] at z2; rw [hs2, he2, hv2]
    by_cases e2 : e2' = 0
    ·
     rw [if_pos e2, if_neg (c := _ ≠ _) (fun h => h e2), e2]; rw [w64 (n := n - (spread rs).length) (by omega) (by omega), show n - (spread rs).length = left by omega, w64' (x := left) h0 (by omega), w64 (n := ((spread rs).length : Int) - 1) (by omega) (by omega)]
     have hyes : ∀ k' X, X = true → cH.j1 (k' + 1) n (spread rs) v c X S a2 0 = some (fin ([], 5)) := by
      rintro k' X rfl; simp only [cH.j1, if_true]; rfl
     obtain ⟨k', rfl⟩ : ∃ m, k = m + 1 := ⟨k - 1, by omega⟩
     by_cases c0 : c = 0
     · rw [if_pos c0, if_pos (.inl c0)]; exact hyes k' _ rfl
     ·
      rw [if_neg c0]
      by_cases c1 : c > left
      · rw [if_pos c1, if_pos (.inr (.inl c1))]; exact hyes k' _ rfl
      ·
       rw [if_neg c1]
       have hno : ∀ X, X = false → ¬ ou rs v → cH.j1 (k' + 1) n (spread rs) v c X S a2 0 = some (fin (dR d s2 (rs ++ [(⟨v, c⟩ : cB)]) (left - c))) := by
        rintro X rfl c2; simp only [cH.j1, Bool.false_eq_true, if_false]; rw [Ca n v S a2 c.toNat k' (spread rs) c 0 (by omega) (by omega) (by omega) (by omega) (by omega)]; have hsp : spread rs ++ List.replicate c.toNat v = spread (rs ++ [(⟨v, c⟩ : cB)]) := (kJ rs ⟨v, c⟩).symm; rw [hsp]; exact ih _ s2 a2 _ (left - c) (by have := r1.2.2 e1; omega) hS2 (by omega) (B0 hm (by omega) c2) (by omega) (by rw [← hsp, List.length_append, List.length_replicate]; omega)
       by_cases c2 : ou rs v
       ·
        rw [if_pos (c := _ ∨ _) (.inr (.inr c2))]; obtain ⟨b, hb⟩ := (uU hm).mp c2; have hzl : ((spread rs).length : Int) = b.length + 1 := by rw [hb]; simp
        have hX : rd (spread rs) (((spread rs).length : Int) - 1) = v := by
         rw [hb, show ((b ++ [v]).length : Int) - 1 = ((b.length : Nat) : Int) by simp, rd_at _ _ (by simp)]
         simp
        rw [if_pos (by omega), if_pos (by omega), if_pos (by omega), hX]; exact hyes k' _ (by simp)
       ·
        rw [if_neg (c := _ ∨ _) (fun h => h.elim c0 (fun h => h.elim c1 c2))]
        rcases jP (spread rs) with he | ⟨b, x, hb⟩
        ·
         rw [if_neg (by rw [he]; simp)]; exact hno _ rfl c2
        ·
         have hzl : ((spread rs).length : Int) = b.length + 1 := by rw [hb]; simp
         rw [if_pos (by omega), if_pos (by omega), if_pos (by omega)]; refine hno _ ?_ c2; rw [hb, show ((b ++ [x]).length : Int) - 1 = ((b.length : Nat) : Int) by simp, rd_at _ _ (by simp)]; simp only [List.getElem_concat_length, beq_eq_false_iff_ne, ne_eq]; rintro rfl; exact c2 ((uU hm).mpr ⟨b, hb⟩)
    ·
     rw [if_neg e2, if_pos e2]; unfold fin; rw [if_neg e2]
   ·
    rw [if_pos e1]; obtain ⟨c, s2, e2', a2, hp2, hr2, hS2, _, _, hk2, _, _, hf2⟩ := hS1.num e1'; obtain ⟨rfl, rfl, rfl, rfl⟩ := hk2 e1; rw [hr2 k (by omega)]; simp only [Option.bind_some]; rw [if_neg e1]; unfold fin; rw [if_neg e1]
theorem Ng : ∀ (b : List cB) (d : Nat) (a : List cB) (left : Int), (kZ b).size < d → gC (a ++ b) → Wf b → 0 ≤ left → dR d (kZ b) a left = if ((spread b).length : Int) = left then (a ++ b, 0) else ([], 5) := by
 intro b
 induction b with
 | nil =>
  intro d a left hd hm hw h0; obtain ⟨d, rfl⟩ : ∃ m, d = m + 1 := ⟨d - 1, by omega⟩; unfold dR; have hz : (kZ []).size = 0 := rfl; rw [if_pos hz, show spread [] = [] from rfl]
  by_cases h : left > 0
  · rw [if_pos h, if_neg (by simp; omega)]
  · rw [if_neg h, if_pos (by simp; omega), List.append_nil]
 | cons r b ih =>
  intro d a left hd hm hw h0; obtain ⟨d, rfl⟩ : ∃ m, d = m + 1 := ⟨d - 1, by omega⟩; have hr := hw r List.mem_cons_self; have hm' : gC (a ++ [r] ++ b) := by simpa using hm
  have hm2 := Gm hm'; have h1 := hm2.last; have hnl := CN hm2; have p0 := put_size r.f0; have p1 := put_size r.f1; have he : kZ (r :: b) = put r.f0 ++ (put r.f1 ++ kZ b) := by simp only [kZ, ByteArray.append_assoc]
  have hz : (kZ (r :: b)).size = (put r.f0).size + ((put r.f1).size + (kZ b).size) := by rw [he, ByteArray.size_append, ByteArray.size_append]
  unfold dR; rw [if_neg (by omega), he, numT_put r.f0 hr.1.1 hr.1.2]; simp only [ne_eq, not_true_eq_false, if_false]; rw [numT_put r.f1 hr.2.1 (by omega)]; simp only [not_true_eq_false, if_false]; rw [uT, List.length_append, List.length_replicate]
  by_cases hc : r.f1 > left
  · rw [if_pos (.inr (.inl hc)), if_neg (by omega)]
  ·
   rw [if_neg (fun h => h.elim (fun h => by omega) (fun h => h.elim hc hnl))]; rw [ih d (a ++ [(⟨r.f0, r.f1⟩ : cB)]) (left - r.f1) (by omega) hm' (fun x hx => hw x (List.mem_cons_of_mem _ hx)) (by omega)]
   by_cases hq : ((spread b).length : Int) = left - r.f1
   ·
    rw [if_pos hq, if_pos (by omega)]
    simp
   · rw [if_neg hq, if_neg (by omega)]
theorem Nh : ∀ (d : Nat) (s : ByteArray) (a : List cB) (left : Int), s.size ≤ 9223372036854775000 → gC a → 0 ≤ left → left ≤ 4096 → (dR d s a left).2 = 0 →
    ∃ b, (dR d s a left).1 = a ++ b ∧ s = kZ b ∧ gC (a ++ b) ∧ ((spread b).length : Int) = left ∧ Wf b := by
 intro d
 induction d with
 | zero => intro s a left _ _ _ _ h; exact absurd h (by simp [dR])
 | succ d ih =>
  intro s a left hs hm h0 h4 h; unfold dR at h ⊢; have r1 := numT_range s hs; have z1 := numT_size s; have r2 := numT_range (numT s).2.1 (by omega); have z2 := numT_size (numT s).2.1
  by_cases hz : s.size = 0
  ·
   rw [if_pos hz] at h ⊢
   by_cases hp : left > 0
   · rw [if_pos hp] at h; exact absurd h (by simp)
   ·
    rw [if_neg hp]; exact ⟨[], by simp, noText_of hz, by simpa using hm, by simp [spread]; omega, fun r hr => by simp at hr⟩
  ·
   rw [if_neg hz] at h ⊢
   by_cases e1 : (numT s).2.2 = 0
   ·
    rw [if_neg (c := _ ≠ _) (fun h => h e1)] at h ⊢
    by_cases e2 : (numT (numT s).2.1).2.2 = 0
    ·
     rw [if_neg (c := _ ≠ _) (fun h => h e2)] at h ⊢
     by_cases hc : (numT (numT s).2.1).1 = 0 ∨ (numT (numT s).2.1).1 > left ∨ ou a (numT s).1
     · rw [if_pos hc] at h; exact absurd h (by simp)
     ·
      rw [if_neg hc] at h ⊢; have hl : ¬ ou a (numT s).1 := fun h => hc (.inr (.inr h))
      have hc0 : (numT (numT s).2.1).1 ≠ 0 := fun h => hc (.inl h)
      have hc1 : ¬ (numT (numT s).2.1).1 > left := fun h => hc (.inr (.inl h))
      obtain ⟨b, h1, h2, h3, h4, h5⟩ := ih _ _ _ (by omega) (B0 hm (v := (numT s).1) (c := (numT (numT s).2.1).1) (by omega) hl) (by omega) (by omega) h; refine ⟨⟨(numT s).1, (numT (numT s).2.1).1⟩ :: b, by rw [h1]; simp, ?_, by simpa using h3, by rw [uT, List.length_append, List.length_replicate]; show (((numT (numT s).2.1).1.toNat + _ : Nat) : Int) = _; omega, fun r hr => ?_⟩
      ·
       have w1 := numT_was s hs e1; have w2 := numT_was (numT s).2.1 (by omega) e2; show s = (put (numT s).1 ++ put (numT (numT s).2.1).1) ++ kZ b; rw [← h2, ByteArray.append_assoc, ← w2]; exact w1
      ·
       rcases List.mem_cons.mp hr with rfl | hr
       · exact ⟨⟨r1.1, r1.2.1⟩, r2.1, by show (numT (numT s).2.1).1 < _; omega⟩
       · exact h5 r hr
    · rw [if_pos e2] at h; exact absurd h e2
   · rw [if_pos e1] at h; exact absurd h e1
theorem Di (l : List Int) (hl : (l.length : Int) ≤ 4096) (h : ∀ x ∈ l, 0 ≤ x ∧ x < 18446744073709551616) : fE (kZ (runs l)) l.length = (l, 0) ∧ ∀ n : Int, n ≠ l.length → (fE (kZ (runs l)) n).2 ≠ 0 := by
 have hw := Le (by omega) h
 have key : ∀ n : Int, 0 ≤ n → dR ((kZ (runs l)).size + 1) (kZ (runs l)) [] n = if (l.length : Int) = n then (runs l, 0) else ([], 5) := fun n hn => by
  have := Ng (runs l) ((kZ (runs l)).size + 1) [] n (by omega) (by simpa using BX l) hw hn
  rwa [qf, List.nil_append] at this
 constructor
 ·
  unfold fE; rw [if_neg (by omega), if_neg (by omega), key _ (by omega), if_pos rfl]; unfold fin; rw [if_pos rfl, qf]
 ·
  intro n hn; unfold fE
  by_cases h0 : n < 0
  · rw [if_pos h0]; decide
  ·
   by_cases h1 : n > 4096
   · rw [if_neg h0, if_pos h1]; decide
   ·
    rw [if_neg h0, if_neg h1, key n (by omega), if_neg (fun h => hn h.symm)]
    decide
theorem yS (s : ByteArray) (hs : s.size ≤ 140737488351232) (n : Int) : ((fE s n).2 = 0 → ((fE s n).1.length : Int) = n ∧ kZ (runs (fE s n).1) = s ∧ ∀ x ∈ (fE s n).1, 0 ≤ x ∧ x < 18446744073709551616) ∧ ((fE s n).2 ≠ 0 → (fE s n).1 = []) := by
 unfold fE
 by_cases h0 : n < 0
 · rw [if_pos h0]; exact ⟨fun h => absurd h (by decide), fun _ => rfl⟩
 ·
  by_cases h1 : n > 4096
  · rw [if_neg h0, if_pos h1]; exact ⟨fun h => absurd h (by decide), fun _ => rfl⟩
  ·
   rw [if_neg h0, if_neg h1]; unfold fin
   by_cases he : (dR (s.size + 1) s [] n).2 = 0
   ·
    rw [if_pos he]; refine ⟨fun _ => ?_, fun h => absurd rfl h⟩; obtain ⟨b, e1, e2, e3, e4, e5⟩ := Nh (s.size + 1) s [] n (by omega) .nil (by omega) (by omega) he; simp only [List.nil_append] at e1 e3; rw [e1]; refine ⟨e4, ?_, fun x hx => ?_⟩
    · simp only; rw [CM e3, ← e2]
    ·
     simp only [spread, List.mem_flatMap] at hx; obtain ⟨r, hr, hx⟩ := hx; obtain rfl := List.eq_of_mem_replicate hx; exact (e5 r hr).1
   ·
    rw [if_neg he]; exact ⟨fun h => absurd h he, fun _ => rfl⟩
end Go.Proofs.YtfgnjndfnijjoaaGreat.LibX
end
section
namespace Go.Proofs.YtfgnjndfnijjoaaGreat.OpA
set_option linter.unusedSimpArgs false
set_option linter.unusedVariables false
open Go.RowKit Go.Proofs.YtfgnjndfnijjoaaGreat.Print Go.Proofs.YtfgnjndfnijjoaaGreatW.PrintWords Go.Proofs.YtfgnjndfnijjoaaGreatW.PrintLast Go.Proofs.YtfgnjndfnijjoaaGreatW.PrintMore Go.Proofs.YtfgnjndfnijjoaaGreat.LibA Go.Proofs.YtfgnjndfnijjoaaGreat.LibB Go.Proofs.YtfgnjndfnijjoaaGreat.RowsA
theorem m1 (j : Nat) : Nat.testBit 71777214294589695 j = (decide (j < 64) && decide (j / 8 % 2 = 0)) := by
 by_cases h : j < 64
 ·
  have : ∀ k : Fin 64, Nat.testBit 71777214294589695 k.val = (decide (k.val < 64) && decide (k.val / 8 % 2 = 0)) := by decide
  exact this ⟨j, h⟩
 ·
  rw [Nat.testBit_lt_two_pow (Nat.lt_of_lt_of_le (by decide) (Nat.pow_le_pow_right (by decide) (show 57 ≤ j by omega)))]
  simp [h]
theorem m2 (j : Nat) : Nat.testBit 281470681808895 j = (decide (j < 64) && decide (j / 16 % 2 = 0)) := by
 by_cases h : j < 64
 ·
  have : ∀ k : Fin 64, Nat.testBit 281470681808895 k.val = (decide (k.val < 64) && decide (k.val / 16 % 2 = 0)) := by decide
  exact this ⟨j, h⟩
 ·
  rw [Nat.testBit_lt_two_pow (Nat.lt_of_lt_of_le (by decide) (Nat.pow_le_pow_right (by decide) (show 57 ≤ j by omega)))]
  simp [h]
def sM (u : Nat) : Nat := ((u / 256) &&& 71777214294589695) ||| ((u &&& 71777214294589695) * 256 % 18446744073709551616)
def sN (u : Nat) : Nat := ((u / 65536) &&& 281470681808895) ||| ((u &&& 281470681808895) * 65536 % 18446744073709551616)
def xb (u : Nat) : Nat := (u / 4294967296) ||| (u * 4294967296 % 18446744073709551616)
def swp (u : Nat) : Nat := xb (sN (sM u))
theorem big {u : Nat} (hu : u < 18446744073709551616) {j : Nat} (h : 64 ≤ j) : u.testBit j = false := Nat.testBit_lt_two_pow (Nat.lt_of_lt_of_le hu (Nat.pow_le_pow_right (by decide) h : 2 ^ 64 ≤ 2 ^ j))
theorem small {u : Nat} (h : ∀ j, 64 ≤ j → u.testBit j = false) : u < 18446744073709551616 := Nat.lt_pow_two_of_testBit (n := 64) u h
theorem Nk (u : Nat) (hu : u < 18446744073709551616) (j : Nat) : (sM u).testBit j = (decide (j < 64) && u.testBit (if j / 8 % 2 = 0 then j + 8 else j - 8)) := by
 unfold sM; rw [show (256 : Nat) = 2 ^ 8 from rfl, show (18446744073709551616 : Nat) = 2 ^ 64 from rfl]; simp only [Nat.testBit_or, Nat.testBit_and, Nat.testBit_div_two_pow, Nat.testBit_mod_two_pow, Nat.testBit_mul_two_pow, m1]
 by_cases h : j < 64
 ·
  by_cases hp : j / 8 % 2 = 0
  ·
   by_cases h8 : 8 ≤ j
   · simp [h, hp, h8, show ¬ ((j - 8) / 8 % 2 = 0) by omega]
   · simp [h, hp, h8]
  · simp [h, hp, show 8 ≤ j by omega, show (j - 8) / 8 % 2 = 0 by omega, show j - 8 < 64 by omega]
 · simp [h]
theorem Nl (u : Nat) (j : Nat) : (sN u).testBit j = (decide (j < 64) && u.testBit (if j / 16 % 2 = 0 then j + 16 else j - 16)) := by
 unfold sN; rw [show (65536 : Nat) = 2 ^ 16 from rfl, show (18446744073709551616 : Nat) = 2 ^ 64 from rfl]; simp only [Nat.testBit_or, Nat.testBit_and, Nat.testBit_div_two_pow, Nat.testBit_mod_two_pow, Nat.testBit_mul_two_pow, m2]
 by_cases h : j < 64
 ·
  by_cases hp : j / 16 % 2 = 0
  ·
   by_cases h8 : 16 ≤ j
   · simp [h, hp, h8, show ¬ ((j - 16) / 16 % 2 = 0) by omega]
   · simp [h, hp, h8]
  · simp [h, hp, show 16 ≤ j by omega, show (j - 16) / 16 % 2 = 0 by omega, show j - 16 < 64 by omega]
 · simp [h]
theorem Nn (u : Nat) (hu : u < 18446744073709551616) (j : Nat) : (xb u).testBit j = (decide (j < 64) && u.testBit (if j < 32 then j + 32 else j - 32)) := by
 unfold xb; rw [show (4294967296 : Nat) = 2 ^ 32 from rfl, show (18446744073709551616 : Nat) = 2 ^ 64 from rfl]; simp only [Nat.testBit_or, Nat.testBit_div_two_pow, Nat.testBit_mod_two_pow, Nat.testBit_mul_two_pow]
 by_cases h : j < 64
 ·
  by_cases hp : j < 32
  · simp [h, hp, show ¬ 32 ≤ j by omega]
  · simp [h, hp, show 32 ≤ j by omega, big hu (show 64 ≤ j + 32 by omega)]
 · simp [h, big hu (show 64 ≤ j + 32 by omega)]
theorem lt1 (u : Nat) (hu : u < 18446744073709551616) : sM u < 18446744073709551616 := small fun j h => by rw [Nk u hu]; simp [show ¬ j < 64 by omega]
theorem lt2 (u : Nat) : sN u < 18446744073709551616 := small fun j h => by rw [Nl]; simp [show ¬ j < 64 by omega]
theorem nv (u : Nat) : swp u < 18446744073709551616 := small fun j h => by unfold swp; rw [Nn _ (lt2 _)]; simp [show ¬ j < 64 by omega]
def sg (j : Nat) : Nat := 8 * (7 - j / 8) + j % 8
theorem yT (u : Nat) (hu : u < 18446744073709551616) (j : Nat) : (swp u).testBit j = (decide (j < 64) && u.testBit (sg j)) := by
 unfold swp; rw [Nn _ (lt2 _), Nl, Nk u hu]
 by_cases h : j < 64
 ·
  have hs : ∀ k : Fin 64, (if (if (if k.val < 32 then k.val + 32 else k.val - 32) / 16 % 2 = 0 then (if k.val < 32 then k.val + 32 else k.val - 32) + 16 else (if k.val < 32 then k.val + 32 else k.val - 32) - 16) / 8 % 2 = 0 then (if (if k.val < 32 then k.val + 32 else k.val - 32) / 16 % 2 = 0 then (if k.val < 32 then k.val + 32 else k.val - 32) + 16 else (if k.val < 32 then k.val + 32 else k.val - 32) - 16) + 8 else (if (if k.val < 32 then k.val + 32 else k.val - 32) / 16 % 2 = 0 then (if k.val < 32 then k.val + 32 else k.val - 32) + 16 else (if k.val < 32 then k.val + 32 else k.val - 32) - 16) - 8) = sg k.val ∧ (if k.val < 32 then k.val + 32 else k.val - 32) < 64 ∧ (if (if k.val < 32 then k.val + 32 else k.val - 32) / 16 % 2 = 0 then (if k.val < 32 then k.val + 32 else k.val - 32) + 16 else (if k.val < 32 then k.val + 32 else k.val - 32) - 16) < 64 := by decide
  obtain ⟨h1, h2, h3⟩ := hs ⟨j, h⟩; simp only at h1 h2 h3; rw [h1, decide_eq_true h, decide_eq_true h2, decide_eq_true h3]
  simp
 · simp [h]
theorem Dj (u : Nat) (hu : u < 18446744073709551616) : swp (swp u) = u := by
 apply Nat.eq_of_testBit_eq
 intro j; rw [yT _ (nv u), yT u hu]
 by_cases h : j < 64
 ·
  have hs : ∀ k : Fin 64, sg k.val < 64 ∧ sg (sg k.val) = k.val := by decide
  obtain ⟨h1, h2⟩ := hs ⟨j, h⟩; simp only at h1 h2; rw [h2]
  simp [h, h1]
 · simp [h, big hu (show 64 ≤ j by omega)]
def rr : Nat → Nat → Nat → Nat
  | 0, _, v => v
  | c + 1, u, v => rr c (u / 256) (256 * v + u % 256)
theorem Gn : ∀ (c u v j : Nat), (rr c u v).testBit j = if j < 8 * c then u.testBit (8 * (c - 1 - j / 8) + j % 8) else v.testBit (j - 8 * c)
  | 0, u, v, j => by simp [rr]
  | c + 1, u, v, j => by
    unfold rr
    rw [Gn c]
    by_cases h : j < 8 * c
    · rw [if_pos h, if_pos (by omega), show (256 : Nat) = 2 ^ 8 from rfl, Nat.testBit_div_two_pow]
      congr 1
      omega
    · rw [if_neg h, show (256 : Nat) = 2 ^ 8 from rfl, Nat.testBit_two_pow_mul_add _ (Nat.mod_lt _ (by decide))]
      by_cases h2 : j < 8 * (c + 1)
      · rw [if_pos (by omega), if_pos h2, Nat.testBit_mod_two_pow, decide_eq_true (by omega : j - 8 * c < 8), Bool.true_and]
        congr 1
        omega
      · rw [if_neg (by omega), if_neg h2]
        congr 1
theorem Np (u : Nat) (hu : u < 18446744073709551616) : rr 8 u 0 = swp u := by
 apply Nat.eq_of_testBit_eq
 intro j; rw [Gn, yT u hu]
 by_cases h : j < 64
 ·
  rw [if_pos (by omega), decide_eq_true h, Bool.true_and]
  rfl
 ·
  rw [if_neg (by omega), decide_eq_false h]
  simp
theorem Dk (u : Nat) (hu : u < 18446744073709551616) : jm.f (u : Int) = some ((swp u : Nat) : Int) := by
 have a1 := u64_and_nat (u / 256) 71777214294589695 (by omega) (by decide); have a2 := u64_and_nat u 71777214294589695 hu (by decide); have w1 : IntKind.u64.wrap (((u &&& 71777214294589695 : Nat) : Int) * 256) = (((u &&& 71777214294589695) * 256 % 18446744073709551616 : Nat) : Int) := by rw [IntKind.wrap_u64]; omega
 have o1 := u64_or_nat ((u / 256) &&& 71777214294589695) ((u &&& 71777214294589695) * 256 % 18446744073709551616) (Nat.lt_of_le_of_lt Nat.and_le_left (by omega)) (by omega); have l1 := lt1 u hu; have e1 : sM u = ((u / 256) &&& 71777214294589695) ||| ((u &&& 71777214294589695) * 256 % 18446744073709551616) := rfl
 rw [← e1] at o1; generalize sM u = v at o1 l1 e1; have a3 := u64_and_nat (v / 65536) 281470681808895 (by omega) (by decide); have a4 := u64_and_nat v 281470681808895 l1 (by decide); have w2 : IntKind.u64.wrap (((v &&& 281470681808895 : Nat) : Int) * 65536) = (((v &&& 281470681808895) * 65536 % 18446744073709551616 : Nat) : Int) := by rw [IntKind.wrap_u64]; omega
 have o2 := u64_or_nat ((v / 65536) &&& 281470681808895) ((v &&& 281470681808895) * 65536 % 18446744073709551616) (Nat.lt_of_le_of_lt Nat.and_le_left (by omega)) (by omega); have l2 := lt2 v; have e2 : sN v = ((v / 65536) &&& 281470681808895) ||| ((v &&& 281470681808895) * 65536 % 18446744073709551616) := rfl
 rw [← e2] at o2; have e3 : swp u = xb (sN v) := by unfold swp; rw [show sM u = v from e1.symm ▸ rfl]
 rw [e3]; generalize sN v = x at o2 l2; have w3 : IntKind.u64.wrap ((x : Int) * 4294967296) = ((x * 4294967296 % 18446744073709551616 : Nat) : Int) := by rw [IntKind.wrap_u64]; omega
 have o3 := u64_or_nat (x / 4294967296) (x * 4294967296 % 18446744073709551616) (by omega) (by omega); unfold jm.f xb; have c1 : (u : Int) / 256 = ((u / 256 : Nat) : Int) := by omega
 have k1 : (71777214294589695 : Int) = ((71777214294589695 : Nat) : Int) := rfl; have k2 : (281470681808895 : Int) = ((281470681808895 : Nat) : Int) := rfl; rw [c1, k1, a1, a2, w1, o1]; have c2 : (v : Int) / 65536 = ((v / 65536 : Nat) : Int) := by omega
 rw [c2, k2, a3, a4, w2, o2]; have c3 : (x : Int) / 4294967296 = ((x / 4294967296 : Nat) : Int) := by omega
 rw [c3, w3, o3]
theorem Cc : ∀ (c u v i : Nat), c + i = 8 → u < 18446744073709551616 → v < 256 ^ i → Ev (fun k => gB.l0 k (u : Int) (v : Int) (i : Int)) ((rr c u v : Nat) : Int)
  | 0, u, v, i, hi, hu, hv => by
    refine Ev.succ ?_
    simp only [gB.l0, if_neg (show ¬ (i : Int) < 8 by omega), rr]
    exact Ev.now _
  | c + 1, u, v, i, hi, hu, hv => by
    refine Ev.succ ?_
    have hv2 : 256 * v + u % 256 < 256 ^ (i + 1) := by
      rw [Nat.pow_succ]
      have := Nat.mod_lt u (show 0 < 256 by decide)
      omega
    have h8 : 256 ^ (i + 1) ≤ 256 ^ 8 := Nat.pow_le_pow_right (by decide) (by omega)
    have e1 : IntKind.u64.wrap (Int.tdiv (u : Int) 256) = ((u / 256 : Nat) : Int) := by rw [Int.tdiv_eq_ediv_of_nonneg (by omega), IntKind.wrap_u64]; omega
    have e2 : IntKind.u64.wrap ((IntKind.u64.wrap (256 * (v : Int))) + (Int.tmod (u : Int) 256)) = ((256 * v + u % 256 : Nat) : Int) := by
      rw [Int.tmod_eq_emod_of_nonneg (by omega), IntKind.wrap_u64, IntKind.wrap_u64]
      have : (256 ^ 8 : Nat) = 18446744073709551616 := by decide
      omega
    simp only [gB.l0, if_pos (show (i : Int) < 8 by omega), w64 (show -9223372036854775808 ≤ (i : Int) + 1 by omega) (by omega), e1, e2, rr]
    exact Cc c (u / 256) (256 * v + u % 256) (i + 1) (by omega) (by omega) hv2
theorem xd (u : Nat) (hu : u < 18446744073709551616) : Ev (fun k => gB.f k (u : Int)) ((swp u : Nat) : Int) := by
 have := Cc 8 u 0 0 rfl hu (by decide); rw [Np u hu] at this; exact this
end Go.Proofs.YtfgnjndfnijjoaaGreat.OpA
end
section
namespace Go.Proofs.YtfgnjndfnijjoaaGreat.RowsB
set_option linter.unusedSimpArgs false
set_option linter.unusedVariables false
open Go.RowKit Go.Proofs.YtfgnjndfnijjoaaGreat.Print Go.Proofs.YtfgnjndfnijjoaaGreatW.PrintWords Go.Proofs.YtfgnjndfnijjoaaGreatW.PrintLast Go.Proofs.YtfgnjndfnijjoaaGreatW.PrintMore Go.Proofs.YtfgnjndfnijjoaaGreat.LibA Go.Proofs.YtfgnjndfnijjoaaGreat.LibB Go.Proofs.YtfgnjndfnijjoaaGreat.LibC Go.Proofs.YtfgnjndfnijjoaaGreat.LibD Go.Proofs.YtfgnjndfnijjoaaGreat.LibE Go.Proofs.YtfgnjndfnijjoaaGreat.LibF Go.Proofs.YtfgnjndfnijjoaaGreat.LibG Go.Proofs.YtfgnjndfnijjoaaGreat.RowsA
def RF (x : Int) : ByteArray := strOfNums (eY 9 x)
theorem Cd (x : Int) (h0 : 0 ≤ x) (h1 : x < 18446744073709551616) : Ev (fun k => bL.f k x) (RF x) := Ev.all 10 fun k hk => (BR x h0 h1 k hk).1
end Go.Proofs.YtfgnjndfnijjoaaGreat.RowsB
end
section
namespace Go.Proofs.YtfgnjndfnijjoaaGreat.RowsC
set_option linter.unusedSimpArgs false
set_option linter.unusedVariables false
open Go.RowKit Go.Proofs.YtfgnjndfnijjoaaGreat.Print Go.Proofs.YtfgnjndfnijjoaaGreatW.PrintWords Go.Proofs.YtfgnjndfnijjoaaGreatW.PrintLast Go.Proofs.YtfgnjndfnijjoaaGreatW.PrintMore Go.Proofs.YtfgnjndfnijjoaaGreat.LibA Go.Proofs.YtfgnjndfnijjoaaGreat.LibB Go.Proofs.YtfgnjndfnijjoaaGreat.LibC Go.Proofs.YtfgnjndfnijjoaaGreat.LibD Go.Proofs.YtfgnjndfnijjoaaGreat.LibE Go.Proofs.YtfgnjndfnijjoaaGreat.LibF Go.Proofs.YtfgnjndfnijjoaaGreat.LibG Go.Proofs.YtfgnjndfnijjoaaGreat.RowsA Go.Proofs.YtfgnjndfnijjoaaGreat.RowsB
theorem Ce {b : Nat} {x : Int} (h : FB b x) : 0 ≤ x ∧ x < 18446744073709551616 := by
 have h1 := h.lt; have h2 := h.eq; unfold dD at h2
 split at h2 <;> omega
end Go.Proofs.YtfgnjndfnijjoaaGreat.RowsC
end
section
namespace Go.Proofs.YtfgnjndfnijjoaaGreat.RowsL
set_option linter.unusedSimpArgs false
set_option linter.unusedVariables false
open Go.RowKit Go.Proofs.YtfgnjndfnijjoaaGreat.Print Go.Proofs.YtfgnjndfnijjoaaGreatW.PrintWords Go.Proofs.YtfgnjndfnijjoaaGreatW.PrintLast Go.Proofs.YtfgnjndfnijjoaaGreatW.PrintMore Go.Proofs.YtfgnjndfnijjoaaGreat.LibA Go.Proofs.YtfgnjndfnijjoaaGreat.LibB Go.Proofs.YtfgnjndfnijjoaaGreat.LibC Go.Proofs.YtfgnjndfnijjoaaGreat.LibD Go.Proofs.YtfgnjndfnijjoaaGreat.LibE Go.Proofs.YtfgnjndfnijjoaaGreat.LibF Go.Proofs.YtfgnjndfnijjoaaGreat.LibG Go.Proofs.YtfgnjndfnijjoaaGreat.RowsA Go.Proofs.YtfgnjndfnijjoaaGreat.RowsB Go.Proofs.YtfgnjndfnijjoaaGreat.RowsC
theorem Nq : iw.f 60 = some true := by decide +kernel
theorem uE : Ev (fun k => iw.f k) true := Ev.of iw.mono Nq
end Go.Proofs.YtfgnjndfnijjoaaGreat.RowsL
end
section
namespace Go.Proofs.YtfgnjndfnijjoaaGreat.RowsD
set_option linter.unusedSimpArgs false
set_option linter.unusedVariables false
open Go.RowKit Go.Proofs.YtfgnjndfnijjoaaGreat.Print Go.Proofs.YtfgnjndfnijjoaaGreatW.PrintWords Go.Proofs.YtfgnjndfnijjoaaGreatW.PrintLast Go.Proofs.YtfgnjndfnijjoaaGreatW.PrintMore Go.Proofs.YtfgnjndfnijjoaaGreat.LibA Go.Proofs.YtfgnjndfnijjoaaGreat.LibB Go.Proofs.YtfgnjndfnijjoaaGreat.LibC Go.Proofs.YtfgnjndfnijjoaaGreat.LibD Go.Proofs.YtfgnjndfnijjoaaGreat.LibE Go.Proofs.YtfgnjndfnijjoaaGreat.LibF Go.Proofs.YtfgnjndfnijjoaaGreat.LibG Go.Proofs.YtfgnjndfnijjoaaGreat.RowsA Go.Proofs.YtfgnjndfnijjoaaGreat.RowsB Go.Proofs.YtfgnjndfnijjoaaGreat.RowsC Go.Proofs.YtfgnjndfnijjoaaGreat.RowsL
def j4 (u : Int) : Bool := if u / 4503599627370496 % 2048 = 2047 then (if u % 4503599627370496 = 0 then true else u == 9221120237041090560) else true
theorem Cf (u : Int) (h0 : 0 ≤ u) (h1 : u < 18446744073709551616) : jn.f u = some (j4 u) ∧ mg.f u = some (j4 u) := by
 unfold jn.f mg.f j4 pF.f; rw [F7 u h0 h1, F8 u h0 h1, Int.tmod_eq_emod_of_nonneg (by omega), Int.tmod_eq_emod_of_nonneg h0]; simp only [Option.bind_some]
 constructor <;> (repeat' split) <;> rfl
theorem zo (u : Int) (h0 : 0 ≤ u) (h1 : u < 18446744073709551616) (h : j4 u = true) : ((dD u.toNat : Nat) : Int) = u := by
 unfold j4 at h; unfold dD
 split at h
 ·
  rename_i he
  split at h
  · rw [if_neg (by omega)]; omega
  ·
   have : u = 9221120237041090560 := by simpa using h
   subst this
   decide
 ·
  rename_i he
  rw [if_neg (by omega)]; omega
theorem I5 (b : Nat) (x : Int) (h : FB b x) : j4 x = true ∧ FB x.toNat x := by
 have hl := h.lt; have he := h.eq; unfold dD at he
 have hx : (x % 9223372036854775808 ≤ 9218868437227405312 ∨ x = 9221120237041090560) ∧ 0 ≤ x ∧ x < 18446744073709551616 := by
  split at he <;> omega
 constructor
 ·
  unfold j4
  split
  ·
   split
   · rfl
   · rw [beq_iff_eq]; omega
  · rfl
 ·
  refine ⟨by omega, ?_⟩; unfold dD
  split <;> omega
theorem Cg (u : Int) (h0 : 0 ≤ u) (h1 : u < 18446744073709551616) : jK.f u = some ((dD u.toNat : Nat) : Int) ∧ iM.f u = some ((dD u.toNat : Nat) : Int) := by
 unfold jK.f iM.f; rw [if_pos ⟨h0, h1⟩]; exact ⟨rfl, rfl⟩
instance (a b : Mv) : Decidable (BW a b) := by unfold BW; infer_instance
end Go.Proofs.YtfgnjndfnijjoaaGreat.RowsD
end
section
namespace Go.Proofs.YtfgnjndfnijjoaaGreat.OpB
set_option linter.unusedSimpArgs false
set_option linter.unusedVariables false
open Go.RowKit Go.Proofs.YtfgnjndfnijjoaaGreat.Print Go.Proofs.YtfgnjndfnijjoaaGreatW.PrintWords Go.Proofs.YtfgnjndfnijjoaaGreatW.PrintLast Go.Proofs.YtfgnjndfnijjoaaGreatW.PrintMore Go.Proofs.YtfgnjndfnijjoaaGreat.LibA Go.Proofs.YtfgnjndfnijjoaaGreat.LibB Go.Proofs.YtfgnjndfnijjoaaGreat.LibC Go.Proofs.YtfgnjndfnijjoaaGreat.LibD Go.Proofs.YtfgnjndfnijjoaaGreat.LibE Go.Proofs.YtfgnjndfnijjoaaGreat.LibG Go.Proofs.YtfgnjndfnijjoaaGreat.RowsA Go.Proofs.YtfgnjndfnijjoaaGreat.RowsC Go.Proofs.YtfgnjndfnijjoaaGreat.RowsD Go.Proofs.YtfgnjndfnijjoaaGreat.OpA
open Go.Proofs.YtfgnjndfnijjoaaGreat.LibW (put put_size no_app app_no put_both)
open Go.Proofs.YtfgnjndfnijjoaaGreat.LibX (numT num_numT num_err numT_size numT_range numT_put numT_was noText_of)
structure Cn (x : Int) : Prop where
  lo : 0 ≤ x
  hi : x < 18446744073709551616
  cn : j4 x = true
theorem Cn.of {b : Nat} {x : Int} (h : FB b x) : Cn x := ⟨(Ce h).1, (Ce h).2, (I5 b x h).1⟩
theorem rQ (x : Int) : fH.f x = some x ∧ dx.f x = some x := ⟨rfl, rfl⟩
theorem xe (x : Int) (h0 : 0 ≤ x) (h1 : x < 18446744073709551616) : Ev (fun k => bL.f k x) (put x) ∧ Ev (fun k => fh.f k x) (put x) := ⟨Ev.all 10 fun k hk => (put_both x h0 h1 k hk).1, Ev.all 10 fun k hk => (put_both x h0 h1 k hk).2⟩
theorem xg (a b : Nat) (ha : a < 18446744073709551616) (hb : b < 18446744073709551616) : Go.bits .xor .u64 (a : Int) (b : Int) = ((a ^^^ b : Nat) : Int) := u64_xor_nat a b ha hb
theorem rR {a b : Nat} (ha : a < 18446744073709551616) (hb : b < 18446744073709551616) : a ^^^ b < 18446744073709551616 := Nat.xor_lt_two_pow (n := 64) ha hb
theorem xh (l : List Int) (i : Nat) (h : i < l.length) : jl l (i : Int) = l[i] := by simp [jl, List.getD_eq_getElem?_getD, h]
noncomputable def chX : List Int → Nat → ByteArray
  | [], _ => ig
  | x :: xs, last => put ((swp (x.toNat ^^^ last) : Nat) : Int) ++ chX xs x.toNat
theorem sO : ∀ (xs : List Int) (last : Nat), xs.length ≤ (chX xs last).size ∧ (chX xs last).size ≤ 10 * xs.length
  | [], _ => ⟨Nat.le_refl _, Nat.le_refl _⟩
  | x :: xs, last => by
    have := sO xs x.toNat
    have := put_size ((swp (x.toNat ^^^ last) : Nat) : Int)
    simp only [chX, ByteArray.size_append, List.length_cons]
    omega
theorem Nr : ∀ (xs : List Int) (last : Nat) (acc : ByteArray), (∀ x ∈ xs, 0 ≤ x ∧ x < 18446744073709551616) → last < 18446744073709551616 → acc.size + 10 * xs.length ≤ 140737488355328 → Ev (fun k => cW.g k xs (last : Int) acc) (acc ++ chX xs last)
  | [], last, acc, _, _, _ => by
    simp only [cW.g, chX, app_no]
    exact Ev.now _
  | x :: xs, last, acc, hx, hl, hs => by
    obtain ⟨h0, h1⟩ := hx x List.mem_cons_self
    obtain ⟨u, rfl⟩ : ∃ u : Nat, x = u := ⟨x.toNat, by omega⟩
    have hu : u < 18446744073709551616 := by omega
    have hxor := rR hu hl
    have hp := put_size ((swp (u ^^^ last) : Nat) : Int)
    have hsw := nv (u ^^^ last)
    simp only [List.length_cons] at hs
    simp only [cW.g, (rQ _).1, Option.bind_some, xg u last hu hl, Dk _ hxor]
    refine Ev.bind (xe _ (by omega) (by omega)).1 ?_
    simp only [if_pos (show acc.size + (put ((swp (u ^^^ last) : Nat) : Int)).size ≤ 140737488355328 by omega)]
    have ih := Nr xs u (acc ++ put ((swp (u ^^^ last) : Nat) : Int)) (fun y hy => hx y (List.mem_cons_of_mem _ hy)) hu (by rw [ByteArray.size_append]; omega)
    simpa only [chX, ByteArray.append_assoc, Int.toNat_natCast] using ih
theorem Ns (l : List Int) (hx : ∀ x ∈ l, 0 ≤ x ∧ x < 18446744073709551616) (hl : l.length ≤ 1000000000) : Ev (fun k => cW.f k l) (chX l 0) := by
 unfold cW.f; simp only [if_pos (show l.length < 4611686018427387904 by omega)]; have := Nr l 0 ByteArray.empty hx (by decide) (by show 0 + _ ≤ _; omega); have he : ByteArray.empty = ig := rfl; rw [he, no_app] at this; exact this
theorem Dl (l : List Int) (hx : ∀ x ∈ l, 0 ≤ x ∧ x < 18446744073709551616) (hl : l.length ≤ 1000000000) : ∀ (d i : Nat) (last : Nat) (acc : ByteArray), i + d = l.length → last < 18446744073709551616 → acc.size ≤ 10 * i → Ev (fun k => gx.l0 k l acc (last : Int) (i : Int)) (acc ++ chX (l.drop i) last)
  | 0, i, last, acc, hi, hla, hs => by
    refine Ev.succ ?_
    simp only [gx.l0, if_neg (show ¬ (i : Int) < (l.length : Int) by omega)]
    rw [List.drop_eq_nil_of_le (by omega)]
    simp only [chX, app_no]
    exact Ev.now _
  | d + 1, i, last, acc, hi, hla, hs => by
    refine Ev.succ ?_
    have hil : i < l.length := by omega
    obtain ⟨h0, h1⟩ := hx l[i] (List.getElem_mem hil)
    simp only [gx.l0, if_pos (show (i : Int) < (l.length : Int) by omega), if_pos (show (0 : Int) ≤ (i : Int) by omega), xh l i hil, (rQ _).2, Option.bind_some, w64 (show -9223372036854775808 ≤ (i : Int) + 1 by omega) (by omega)]
    rw [List.drop_eq_getElem_cons hil]
    generalize l[i] = x at h0 h1
    obtain ⟨u, rfl⟩ : ∃ u : Nat, x = u := ⟨x.toNat, by omega⟩
    have hu : u < 18446744073709551616 := by omega
    have hxor := rR hu hla
    have hp := put_size ((swp (u ^^^ last) : Nat) : Int)
    have hsw := nv (u ^^^ last)
    simp only [xg u last hu hla]
    refine Ev.bind (xd _ hxor) ?_
    refine Ev.bind (xe _ (by omega) (by omega)).2 ?_
    simp only [if_pos (show acc.size + (put ((swp (u ^^^ last) : Nat) : Int)).size ≤ 9223372036854775807 by omega)]
    have ih := Dl l hx hl d (i + 1) u (acc ++ put ((swp (u ^^^ last) : Nat) : Int)) (by omega) hu (by rw [ByteArray.size_append]; omega)
    simp only [show (i : Int) + 1 = ((i + 1 : Nat) : Int) by omega]
    simpa only [chX, ByteArray.append_assoc, Int.toNat_natCast] using ih
theorem Gp (l : List Int) (hx : ∀ x ∈ l, 0 ≤ x ∧ x < 18446744073709551616) (hl : l.length ≤ 1000000000) : Ev (fun k => gx.f k l) (chX l 0) := by
 have := Dl l hx hl l.length 0 0 ig (by omega) (by decide) (Nat.le_refl _); rw [no_app, List.drop_zero] at this; exact this
noncomputable def dX : Nat → List Int → Nat → ByteArray → List Int × Int
  | 0, l, _, s => if s.size = 0 then (l, 0) else ([], 5)
  | c + 1, l, last, s => if (numT s).2.2 ≠ 0 then ([], (numT s).2.2) else if j4 ((swp (numT s).1.toNat ^^^ last : Nat) : Int) = false then ([], 5) else dX c (l ++ [((swp (numT s).1.toNat ^^^ last : Nat) : Int)]) (swp (numT s).1.toNat ^^^ last) (numT s).2.1
noncomputable def kB (s : ByteArray) (n : Int) : List Int × Int := if n < 0 then ([], 1) else if n > (s.size : Int) then ([], 2) else dX n.toNat [] 0 s
theorem Lf (s : ByteArray) : eE.f s 0 = some (if s.size = 0 then (0, s, 0) else (5, s, 0)) := by
 unfold eE.f bh.f aV.f; simp only [Option.bind_some, if_true]
 by_cases h : s.size = 0
 · rw [if_pos h, if_pos (by omega)]
 · rw [if_neg h, if_neg (by omega)]
theorem Nt : ∀ (c : Nat) (l : List Int) (last : Nat) (s : ByteArray), last < 18446744073709551616 → s.size ≤ 140737488351232 → eW.g c l (last : Int) s 0 = some (dX c l last s)
  | 0, l, last, s, hl, hs => by
    unfold eW.g dX
    rw [Lf]
    simp only [Option.bind_some]
    by_cases h : s.size = 0
    · simp [h]
    · simp [h]
  | c + 1, l, last, s, hl, hs => by
    unfold eW.g dX
    have hr := numT_range s (by omega)
    have hz := numT_size s
    rw [num_numT s (by omega)]
    simp only [Option.bind_some]
    generalize hq : numT s = q at hr hz ⊢
    obtain ⟨v, t, e⟩ := q
    simp only at hr hz ⊢
    obtain ⟨u, rfl⟩ : ∃ u : Nat, v = u := ⟨v.toNat, by omega⟩
    have hu : u < 18446744073709551616 := by omega
    have hx := rR (nv u) hl
    rw [Dk u hu]
    simp only [Option.bind_some, Int.toNat_natCast]
    by_cases he : e = 0
    · subst he
      rw [if_neg (by simp), if_neg (by simp), xg _ _ (nv u) hl, (Cf _ (by omega) (by omega)).1]
      simp only [Option.bind_some]
      by_cases hc : j4 ((swp u ^^^ last : Nat) : Int) = false
      · rw [if_pos hc, if_pos hc]
      · rw [if_neg hc, if_neg hc, (Cg _ (by omega) (by omega)).1, zo _ (by omega) (by omega) (by simpa using hc)]
        simp only [Option.bind_some]
        exact Nt c _ _ t hx (by omega)
    · rw [if_pos he, if_pos he]
theorem Nu (s : ByteArray) (hs : s.size ≤ 140737488351232) (n : Int) (hn : n ≤ 100000000) : eW.f s n = some (kB s n) := by
 unfold eW.f kB
 by_cases h0 : n < 0
 · rw [if_pos h0, if_pos h0]
 rw [if_neg h0, if_neg h0]
 by_cases h1 : n > (s.size : Int)
 · rw [if_pos h1, if_pos h1]
 rw [if_neg h1, if_neg h1, if_pos hn]; unfold eD.f; simp only [Option.bind_some]; exact Nt n.toNat [] 0 s (by decide) hs
theorem xj {S s : ByteArray} {a : Int} (h : Sim S a s) : iQ.f S a 0 = some (if s.size = 0 then (0, S, a, 0) else (5, S, a, 0)) := by
 unfold iQ.f; rw [if_pos rfl, (h.left 0).2]; simp only [Option.bind_some]
 by_cases hz : s.size = 0
 · rw [if_pos hz, if_neg (by omega)]
 · rw [if_neg hz, if_pos (by omega)]
theorem Dm {S s : ByteArray} {a : Int} (h : Sim S a s) : ∃ a', Ev (fun k => aU.f k S a 0) ((numT s).1, S, a', (numT s).2.2) ∧ Sim S a' (numT s).2.1 := by
 obtain ⟨v, r', e', a', h1, h2, h3, _⟩ := h.num 0; have hsz := h.size; have hlo := h.lo; have hbig := h.big; rw [num_numT s (by omega)] at h1; have h4 := Option.some.inj h1; rw [h4]; exact ⟨a', Ev.all 30 h2, h3⟩
theorem Dn (n : Int) (hn : n ≤ 100000000) : ∀ (c : Nat) (l : List Int) (last : Nat) (i : Int) (S s : ByteArray) (a : Int), Sim S a s → 0 ≤ i → i + c = n → (l.length : Int) ≤ i → last < 18446744073709551616 → Ev (fun k => fV.l0 k n l (last : Int) i S a 0) (dX c l last s)
  | 0, l, last, i, S, s, a, h, h0, hi, hl, hla => by
    refine Ev.succ ?_
    simp only [fV.l0, if_neg (show ¬ i < n by omega), xj h, Option.bind_some, dX]
    by_cases hz : s.size = 0
    · simp only [if_pos hz, if_true]
      exact Ev.now _
    · simp only [if_neg hz, show ¬ ((5 : Int) = 0) by decide, if_false, xj h, Option.bind_some]
      exact Ev.now _
  | c + 1, l, last, i, S, s, a, h, h0, hi, hl, hla => by
    refine Ev.succ ?_
    have hbig := h.big
    have hsz := h.size
    have hlo := h.lo
    have hr := numT_range s (by omega)
    obtain ⟨a', hn1, h3⟩ := Dm h
    simp only [fV.l0, if_pos (show i < n by omega), dX]
    refine Ev.bind hn1 ?_
    generalize hq : numT s = q at hr h3 ⊢
    obtain ⟨v, t, e⟩ := q
    simp only at hr h3 ⊢
    obtain ⟨u, rfl⟩ : ∃ u : Nat, v = u := ⟨v.toNat, by omega⟩
    have hu : u < 18446744073709551616 := by omega
    have hx := rR (nv u) hla
    refine Ev.bind (xd u hu) ?_
    simp only [Int.toNat_natCast]
    by_cases he : e = 0
    · subst he
      simp only [if_true, ne_eq, not_true_eq_false, if_false, xg _ _ (nv u) hla, (Cf _ (show (0 : Int) ≤ ((swp u ^^^ last : Nat) : Int) by omega) (by omega)).2, Option.bind_some]
      by_cases hc : j4 ((swp u ^^^ last : Nat) : Int) = false
      · rw [if_pos hc]
        simp only [hc, Bool.false_eq_true, if_false]
        exact Ev.now _
      · rw [if_neg hc]
        have hc2 : j4 ((swp u ^^^ last : Nat) : Int) = true := by simpa using hc
        simp only [hc2, if_true, (Cg _ (show (0 : Int) ≤ ((swp u ^^^ last : Nat) : Int) by omega) (by omega)).2, zo _ (show (0 : Int) ≤ ((swp u ^^^ last : Nat) : Int) by omega) (by omega) hc2, Option.bind_some, if_pos (show l.length < 17592186044416 by omega), w64 (show -9223372036854775808 ≤ i + 1 by omega) (by omega)]
        exact Dn n hn c _ _ (i + 1) S t a' h3 (by omega) (by omega) (by rw [List.length_append]; simp; omega) hx
    · simp only [if_neg he, ne_eq, he, not_false_eq_true, if_true]
      exact Ev.now _
theorem Gq (s : ByteArray) (hs : s.size ≤ 140737488351232) (n : Int) (hn : n ≤ 100000000) : Ev (fun k => fV.f k s n) (kB s n) := by
 unfold fV.f kB
 by_cases h0 : n < 0
 · simp only [if_pos h0]; exact Ev.now _
 simp only [if_neg h0]
 by_cases h1 : n > (s.size : Int)
 · simp only [if_pos h1]; exact Ev.now _
 simp only [if_neg h1]; have hb := Sim.begin s hs 0 (Int.le_refl _) (by omega); have h2 : s.extract (0 : Int).toNat s.size = s := by simp
 rw [h2] at hb; exact Dn n hn n.toNat [] 0 0 s s 0 hb (Int.le_refl _) (by omega) (by simp) (by decide)
def Av : List Int → Nat → Nat
  | [], a => a
  | x :: xs, _ => Av xs x.toNat
theorem Gr : ∀ (xs : List Int) (l : List Int) (last c : Nat) (t : ByteArray), (∀ x ∈ xs, Cn x) → last < 18446744073709551616 → dX (xs.length + c) l last (chX xs last ++ t) = dX c (l ++ xs) (Av xs last) t
  | [], l, last, c, t, _, _ => by simp [chX, no_app, Av]
  | x :: xs, l, last, c, t, hx, hl => by
    obtain ⟨h0, h1, hc⟩ := hx x List.mem_cons_self
    obtain ⟨u, rfl⟩ : ∃ u : Nat, x = u := ⟨x.toNat, by omega⟩
    have hu : u < 18446744073709551616 := by omega
    have hxor := rR hu hl
    have hsw := nv (u ^^^ last)
    rw [show (((u : Int) :: xs).length + c) = (xs.length + c) + 1 by simp; omega]
    conv => lhs; unfold dX
    simp only [chX, Int.toNat_natCast, ByteArray.append_assoc]
    rw [numT_put _ (by omega) (by omega)]
    simp only [Int.toNat_natCast]
    have hb : swp (swp (u ^^^ last)) ^^^ last = u := by rw [Dj _ hxor, Nat.xor_assoc, Nat.xor_self, Nat.xor_zero]
    rw [hb, if_neg (by simp), if_neg (by simp [hc]), Gr xs (l ++ [(u : Int)]) u c t (fun y hy => hx y (List.mem_cons_of_mem _ hy)) hu]
    simp [Av]
theorem Nv (xs : List Int) (l : List Int) (hx : ∀ x ∈ xs, Cn x) : dX xs.length l 0 (chX xs 0) = (l ++ xs, 0) := by
 have := Gr xs l 0 0 ig hx (by decide); rw [app_no, Nat.add_zero] at this; rw [this]
 rfl
theorem Gs : ∀ (c : Nat) (l : List Int) (last : Nat) (s : ByteArray), last < 18446744073709551616 → s.size ≤ 140737488351232 → ((dX c l last s).2 ≠ 0 → (dX c l last s).1 = []) ∧ ((dX c l last s).2 = 0 → ∃ xs : List Int, (dX c l last s).1 = l ++ xs ∧ xs.length = c ∧ s = chX xs last ∧ ∀ x ∈ xs, Cn x)
  | 0, l, last, s, hl, hs => by
    unfold dX
    by_cases h : s.size = 0
    · rw [if_pos h]
      exact ⟨fun h' => absurd rfl h', fun _ => ⟨[], by simp, rfl, noText_of h, fun x hx => absurd hx (by simp)⟩⟩
    · rw [if_neg h]
      exact ⟨fun _ => rfl, fun h' => absurd h' (by decide)⟩
  | c + 1, l, last, s, hl, hs => by
    unfold dX
    have hr := numT_range s (by omega)
    have hz := numT_size s
    have hw := numT_was s (by omega)
    generalize hq : numT s = q at hr hz hw ⊢
    obtain ⟨v, t, e⟩ := q
    simp only at hr hz hw ⊢
    obtain ⟨u, rfl⟩ : ∃ u : Nat, v = u := ⟨v.toNat, by omega⟩
    have hu : u < 18446744073709551616 := by omega
    have hx := rR (nv u) hl
    simp only [Int.toNat_natCast]
    by_cases he : e = 0
    · subst he
      rw [if_neg (by simp)]
      by_cases hc : j4 ((swp u ^^^ last : Nat) : Int) = false
      · rw [if_pos hc]
        exact ⟨fun _ => rfl, fun h' => absurd h' (by decide)⟩
      · rw [if_neg hc]
        obtain ⟨i1, i2⟩ := Gs c (l ++ [((swp u ^^^ last : Nat) : Int)]) (swp u ^^^ last) t hx (by omega)
        refine ⟨i1, fun h' => ?_⟩
        obtain ⟨xs, h1, h2, h3, h4⟩ := i2 h'
        refine ⟨((swp u ^^^ last : Nat) : Int) :: xs, by rw [h1]; simp, by simp [h2], ?_, ?_⟩
        · simp only [chX, Int.toNat_natCast]
          rw [show swp u ^^^ last ^^^ last = swp u by rw [Nat.xor_assoc, Nat.xor_self, Nat.xor_zero], Dj u hu, ← h3]
          exact hw rfl
        · intro x hx'
          rcases List.mem_cons.mp hx' with rfl | hx'
          · exact ⟨by omega, by omega, by simpa using hc⟩
          · exact h4 x hx'
    · rw [if_pos he]
      exact ⟨fun _ => rfl, fun h' => absurd h' he⟩
theorem I6 (l : List Int) (hx : ∀ x ∈ l, Cn x) : kB (chX l 0) l.length = (l, 0) := by
 have h := sO l 0; unfold kB; rw [if_neg (by omega), if_neg (by omega), Int.toNat_natCast, Nv l [] hx]
 rfl
theorem Ci (s : ByteArray) (hs : s.size ≤ 140737488351232) (n : Int) : ((kB s n).2 ≠ 0 → (kB s n).1 = []) ∧ ((kB s n).2 = 0 → ((kB s n).1.length : Int) = n ∧ s = chX (kB s n).1 0 ∧ ∀ x ∈ (kB s n).1, Cn x) := by
 unfold kB
 by_cases h0 : n < 0
 · rw [if_pos h0]; exact ⟨fun _ => rfl, fun h => absurd h (by decide)⟩
 rw [if_neg h0]
 by_cases h1 : n > (s.size : Int)
 · rw [if_pos h1]; exact ⟨fun _ => rfl, fun h => absurd h (by decide)⟩
 rw [if_neg h1]; obtain ⟨i1, i2⟩ := Gs n.toNat [] 0 s (by decide) hs; refine ⟨i1, fun h => ?_⟩; obtain ⟨xs, h2, h3, h4, h5⟩ := i2 h; rw [h2, List.nil_append]; exact ⟨by omega, h4, h5⟩
end Go.Proofs.YtfgnjndfnijjoaaGreat.OpB
end
section
namespace Go.Proofs.YtfgnjndfnijjoaaGreat.LibH
open Go.RowKit Go.Proofs.YtfgnjndfnijjoaaGreat.Print Go.Proofs.YtfgnjndfnijjoaaGreatW.PrintWords Go.Proofs.YtfgnjndfnijjoaaGreatW.PrintLast Go.Proofs.YtfgnjndfnijjoaaGreatW.PrintMore Go.Proofs.YtfgnjndfnijjoaaGreat.LibU Go.Proofs.YtfgnjndfnijjoaaGreat.LibV Go.Proofs.YtfgnjndfnijjoaaGreat.LibW Go.Proofs.YtfgnjndfnijjoaaGreat.LibX Go.Proofs.YtfgnjndfnijjoaaGreat.LibD Go.Proofs.YtfgnjndfnijjoaaGreat.LibE Go.Proofs.YtfgnjndfnijjoaaGreat.LibG
def fl : Bool → List Bool → Int → List Int
  | _, [], n => [n]
  | c, x :: xs, n => if x = c then fl c xs (n + 1) else n :: fl (!c) xs 1
def lens (l : List Bool) : List Int := if l = [] then [] else fl false l 0
def sp : Bool → List Int → List Bool
  | _, [] => []
  | c, n :: ns => List.replicate n.toNat c ++ sp (!c) ns
def Pos (ns : List Int) : Prop := ∀ n ∈ ns, 1 ≤ n
theorem Fm (c : Bool) (l : List Bool) (n : Int) : fl c l n ≠ [] := by
 cases l with
 | nil => simp [fl]
 | cons x xs =>
  unfold fl
  split
  · exact Fm c xs (n + 1)
  · simp
theorem xm : ∀ (l : List Bool) (c : Bool) (n : Int), 1 ≤ n → Pos (fl c l n)
  | [], c, n, h => fun m hm => by simp [fl] at hm; omega
  | x :: xs, c, n, h => by
    unfold fl
    split
    · exact xm xs c (n + 1) (by omega)
    · intro m hm
      rcases List.mem_cons.mp hm with rfl | hm
      · exact h
      · exact xm xs _ 1 (by omega) m hm
theorem Fp : ∀ (l : List Bool) (c : Bool) (n : Int), 0 ≤ n → sp c (fl c l n) = List.replicate n.toNat c ++ l
  | [], c, n, h => by simp [fl, sp]
  | x :: xs, c, n, h => by
    unfold fl
    split
    · rename_i hx
      rw [Fp xs c (n + 1) (by omega), show (n + 1).toNat = n.toNat + 1 by omega, List.replicate_succ', hx]
      simp
    · rename_i hx
      have hc : x = !c := by cases x <;> cases c <;> simp_all
      unfold sp
      rw [Fp xs (!c) 1 (by omega), hc]
      simp
theorem yU (l : List Bool) : sp false (lens l) = l := by
 unfold lens
 split
 · rename_i h; rw [h]; rfl
 · rw [Fp l false 0 (by omega)]; simp
theorem Cj : ∀ (k : Nat) (c : Bool) (l : List Bool) (n : Int), fl c (List.replicate k c ++ l) n = fl c l (n + k)
  | 0, c, l, n => by simp
  | k + 1, c, l, n => by
    rw [List.replicate_succ, List.cons_append]
    unfold fl
    rw [if_pos rfl, Cj k c l (n + 1)]
    rw [show n + 1 + (k : Int) = n + ((k + 1 : Nat) : Int) by omega]
    cases l <;> rfl
theorem JV : ∀ (ns : List Int) (c : Bool) (n : Int), Pos ns → fl c (sp (!c) ns) n = n :: ns
  | [], c, n, _ => by simp [sp, fl]
  | m :: ns, c, n, h => by
    have hm := h m List.mem_cons_self
    unfold sp
    rw [show m.toNat = (m.toNat - 1) + 1 by omega, List.replicate_succ, List.cons_append]
    unfold fl
    rw [if_neg (by cases c <;> simp), Cj]
    have := JV ns (!c) (1 + ((m.toNat - 1 : Nat) : Int)) (fun x hx => h x (List.mem_cons_of_mem _ hx))
    rw [this, show 1 + ((m.toNat - 1 : Nat) : Int) = m by omega]
def tY (ns : List Int) : Prop := ns = [] ∨ ∃ n t, ns = n :: t ∧ 0 ≤ n ∧ Pos t ∧ ¬ (n = 0 ∧ t = [])
theorem Ck : ∀ (ns : List Int) (c : Bool), (∀ n ∈ ns, 0 ≤ n) → ((sp c ns).length : Int) = ns.foldr (· + ·) 0
  | [], c, _ => rfl
  | n :: ns, c, h => by
    have h0 := h n List.mem_cons_self
    unfold sp
    rw [List.length_append, List.length_replicate, List.foldr_cons, ← Ck ns (!c) (fun x hx => h x (List.mem_cons_of_mem _ hx))]
    omega
theorem Cl (l : List Bool) : tY (lens l) := by
 unfold lens
 split
 · exact .inl rfl
 ·
  rename_i h
  cases l with
  | nil => exact absurd rfl h
  | cons x xs =>
   right
   unfold fl
   split
   ·
    have hp := xm xs false (0 + 1) (by omega)
    cases hf : fl false xs (0 + 1) with
    | nil => exact absurd hf (Fm _ _ _)
    | cons n t =>
     rw [hf] at hp; have := hp n List.mem_cons_self; exact ⟨n, t, rfl, by omega, fun m hm => hp m (List.mem_cons_of_mem _ hm), by omega⟩
   · exact ⟨0, _, rfl, by omega, xm xs _ 1 (by omega), fun h => Fm _ _ _ h.2⟩
theorem Lg {ns : List Int} (h : tY ns) : lens (sp false ns) = ns := by
 rcases h with rfl | ⟨n, t, rfl, h0, hp, hn⟩
 · rfl
 ·
  have hne : sp false (n :: t) ≠ [] := by
   unfold sp; intro he; obtain ⟨h1, h2⟩ := List.append_eq_nil_iff.mp he; have h3 : n = 0 := by have := congrArg List.length h1; simp at this; omega
   refine hn ⟨h3, ?_⟩
   cases t with
   | nil => rfl
   | cons m t =>
    have := hp m List.mem_cons_self; unfold sp at h2; have h4 := congrArg List.length (List.append_eq_nil_iff.mp h2).1
    simp at h4
    omega
  unfold lens; rw [if_neg hne]; unfold sp; rw [Cj]; have := JV t false (0 + (n.toNat : Int)) hp; rw [this]
  congr 1
  omega
theorem xo (l : List Bool) (i : Nat) (h : i < l.length) : fW false l (i : Int) = l[i] := by simp [fW, List.getD_eq_getElem?_getD, h]
def lead (c : Bool) : List Bool → Nat
  | [] => 0
  | x :: xs => if x = c then lead c xs + 1 else 0
theorem yV (c : Bool) : ∀ l : List Bool, lead c l ≤ l.length
  | [] => Nat.le_refl _
  | x :: xs => by
    have := yV c xs
    unfold lead
    split <;> simp <;> omega
theorem sP (c : Bool) : ∀ (l : List Bool) (n : Int), fl c l n = (n + lead c l) :: (if l.drop (lead c l) = [] then [] else fl (!c) (l.drop (lead c l)) 0)
  | [], n => by simp [fl, lead]
  | x :: xs, n => by
    show (if x = c then fl c xs (n + 1) else n :: fl (!c) xs 1) = _
    unfold lead
    by_cases hx : x = c
    · have ih := sP c xs (n + 1)
      rw [if_pos hx, if_pos hx, ih, List.drop_succ_cons, show n + 1 + (lead c xs : Int) = n + ((lead c xs + 1 : Nat) : Int) by omega]
    · rw [if_neg hx, if_neg hx]
      have hc : x = !c := by cases x <;> cases c <;> simp_all
      simp only [List.drop_zero, Int.natCast_zero, Int.add_zero, if_neg (List.cons_ne_nil x xs)]
      have h2 : fl (!c) (x :: xs) 0 = fl (!c) xs 1 := by
        show (if x = !c then fl (!c) xs (0 + 1) else _) = _
        rw [if_pos hc]
        rfl
      rw [h2]
theorem Lh (c : Bool) (l : List Bool) (hl : (l.length : Int) ≤ 1000000000000) : ∀ (d k i : Nat), i + d = l.length → d + 1 ≤ k →
    aZ.l0 k l (!c) (l.length : Int) (i : Int) = some (if lead c (l.drop i) = (l.drop i).length then -1 else ((i + lead c (l.drop i) : Nat) : Int)) := by
 intro d
 induction d with
 | zero =>
  intro k i hd hk; obtain ⟨k, rfl⟩ : ∃ m, k = m + 1 := ⟨k - 1, by omega⟩; unfold aZ.l0; rw [if_neg (by omega), List.drop_eq_nil_of_le (by omega)]
  rfl
 | succ d ih =>
  intro k i hd hk; obtain ⟨k, rfl⟩ : ∃ m, k = m + 1 := ⟨k - 1, by omega⟩; have hi : i < l.length := by omega
  unfold aZ.l0; rw [if_pos (by omega), if_pos (by omega), if_pos (by omega), xo l i hi, List.drop_eq_getElem_cons hi]; unfold lead
  by_cases hx : l[i] = c
  ·
   rw [if_neg (by rw [hx]; cases c <;> simp), w64 (by omega) (by omega), show (i : Int) + 1 = ((i + 1 : Nat) : Int) by omega, ih k (i + 1) (by omega) (by omega), if_pos hx]
   congr 1
   by_cases h : lead c (l.drop (i + 1)) = (l.drop (i + 1)).length
   · rw [if_pos h, if_pos (by rw [List.length_cons, h])]
   ·
    rw [if_neg h, if_neg (by rw [List.length_cons]; omega)]
    omega
  ·
   rw [if_pos (by cases c <;> cases h : l[i] <;> simp_all), if_neg hx, if_neg (by simp only [List.length_cons]; omega)]
   rfl
theorem PW : ∀ (d k : Nat) (b : Bool) (l : List Bool) (out : List Int), 2 * l.length + (if lead (!b) l = 0 then 1 else 0) < d → (l.length : Int) ≤ 1000000000000 → (out.length : Int) + d ≤ 10000000000000 → d + l.length + 1 ≤ k →
    cu.l0 k b l out = some (out ++ (if l = [] then [] else fl (!b) l 0)) := by
 intro d
 induction d with
 | zero => intro k b l out hd; omega
 | succ d ih =>
  intro k b l out hd hl ho hk; obtain ⟨k, rfl⟩ : ∃ m, k = m + 1 := ⟨k - 1, by omega⟩; unfold cu.l0
  by_cases h0 : l = []
  ·
   subst h0
   simp
  ·
   have hpos : 0 < l.length := List.length_pos_iff.mpr h0; rw [if_pos hpos, if_neg h0]; unfold aZ.f; have hi := Lh (!b) l hl l.length k 0 (by omega) (by omega); simp only [Bool.not_not, Int.natCast_zero, List.drop_zero, Nat.zero_add] at hi; rw [hi]; simp only [Option.bind_some]; have hle := yV (!b) l; rw [sP (!b) l 0, Bool.not_not, Int.zero_add]
   by_cases hall : lead (!b) l = l.length
   ·
    rw [if_pos hall, if_pos (by omega), if_pos (by omega)]; have hd : l.drop (lead (!b) l) = [] := List.drop_eq_nil_of_le (by omega); rw [hd, if_pos rfl, hall, List.drop_eq_nil_of_le (Nat.le_refl _)]; obtain ⟨k, rfl⟩ : ∃ m, k = m + 1 := ⟨k - 1, by omega⟩; unfold cu.l0
    simp
   ·
    rw [if_neg hall, if_neg (by omega), if_pos (by omega), if_pos (by omega), Int.toNat_natCast]
    have hne : l.drop (lead (!b) l) ≠ [] := by
     intro h; have := congrArg List.length h; rw [List.length_drop] at this
     simp at this
     omega
    rw [if_neg hne]; have hdl : (l.drop (lead (!b) l)).length = l.length - lead (!b) l := List.length_drop
    have hm : 2 * (l.drop (lead (!b) l)).length + (if lead (!!b) (l.drop (lead (!b) l)) = 0 then 1 else 0) < d := by
     by_cases hz : lead (!b) l = 0
     ·
      rw [if_pos hz] at hd
      have h1 : lead (!!b) (l.drop (lead (!b) l)) ≠ 0 := by
       rw [hz, List.drop_zero, Bool.not_not]
       cases l with
       | nil => exact absurd rfl h0
       | cons x xs =>
        unfold lead at hz ⊢
        split at hz
        · omega
        ·
         rename_i h
         rw [if_pos (by cases x <;> cases b <;> simp_all)]
         omega
      rw [if_neg h1]
      omega
     ·
      rw [if_neg hz] at hd
      split <;> omega
    rw [ih k (!b) (l.drop (lead (!b) l)) _ hm (by omega) (by rw [List.length_append]; simp only [List.length_cons, List.length_nil]; omega) (by omega), if_neg hne, Bool.not_not]
    simp
theorem Cm (l : List Bool) (hl : (l.length : Int) ≤ 1000000000000) (k : Nat) (hk : 3 * l.length + 3 ≤ k) : cu.f k l = some (lens l) := by
 unfold cu.f lens; have := PW (2 * l.length + 2) k true l [] (by split <;> omega) hl (by simp; omega) (by omega)
 simpa using this
theorem Ca (l : List Bool) (hl : (l.length : Int) ≤ 1000000000000) (c : Bool) (out : List Int) (ho : (out.length : Int) ≤ 10000000000000) : ∀ (d k i : Nat) (n : Int), i + d = l.length → d + 1 ≤ k → 0 ≤ n → n + d ≤ 1000000000000 →
    cU.l1 k l out c (i : Int) n = cU.l0 (k - (lead c (l.drop i) + 1)) l (out ++ [n + lead c (l.drop i)]) (!c) ((i + lead c (l.drop i) : Nat) : Int) := by
 intro d
 induction d with
 | zero =>
  intro k i n hd hk h0 hn; obtain ⟨k, rfl⟩ : ∃ m, k = m + 1 := ⟨k - 1, by omega⟩; unfold cU.l1; rw [if_neg (by omega), if_pos (by omega), List.drop_eq_nil_of_le (by omega)]
  simp [lead]
 | succ d ih =>
  intro k i n hd hk h0 hn; obtain ⟨k, rfl⟩ : ∃ m, k = m + 1 := ⟨k - 1, by omega⟩; have hi : i < l.length := by omega
  unfold cU.l1; rw [if_pos (by omega), if_pos (by omega), xo l i hi, List.drop_eq_getElem_cons hi]; unfold lead
  by_cases hx : l[i] = c
  ·
   rw [if_pos (by simp [hx]), if_pos hx, w64 (by omega) (by omega), w64 (by omega) (by omega), show (i : Int) + 1 = ((i + 1 : Nat) : Int) by omega, ih k (i + 1) (n + 1) (by omega) (by omega) (by omega) (by omega)]; rw [show n + 1 + (lead c (l.drop (i + 1)) : Int) = n + ((lead c (l.drop (i + 1)) + 1 : Nat) : Int) by omega, show k - (lead c (l.drop (i + 1)) + 1) = k + 1 - (lead c (l.drop (i + 1)) + 1 + 1) by omega, show i + 1 + lead c (l.drop (i + 1)) = i + (lead c (l.drop (i + 1)) + 1) by omega]
  ·
   rw [if_neg (by simp [hx]), if_neg hx, if_pos (by omega)]
   simp
theorem Nw (l : List Bool) (hl : (l.length : Int) ≤ 1000000000000) : ∀ (d k i : Nat) (c : Bool) (out : List Int), i ≤ l.length → 2 * (l.length - i) + (if lead c (l.drop i) = 0 then 1 else 0) < d → (out.length : Int) + d ≤ 10000000000000 → 2 * d + (l.length - i) + 3 ≤ k →
    cU.l0 k l out c (i : Int) = some (out ++ (if l.drop i = [] then [] else fl c (l.drop i) 0)) := by
 intro d
 induction d with
 | zero => intro k i c out _ hd; omega
 | succ d ih =>
  intro k i c out hil hd ho hk; obtain ⟨k, rfl⟩ : ∃ m, k = m + 1 := ⟨k - 1, by omega⟩; unfold cU.l0
  by_cases hi : i < l.length
  ·
   have hne0 : l.drop i ≠ [] := by
    intro h; have := congrArg List.length h; rw [List.length_drop] at this
    simp at this
    omega
   have hle := yV c (l.drop i); rw [List.length_drop] at hle; rw [if_pos (by omega), if_neg hne0, Ca l hl c out (by omega) (l.length - i) k i 0 (by omega) (by omega) (by omega) (by omega), sP c (l.drop i) 0, List.drop_drop]
   have hm : 2 * (l.length - (i + lead c (l.drop i))) + (if lead (!c) (l.drop (i + lead c (l.drop i))) = 0 then 1 else 0) < d := by
    by_cases hz : lead c (l.drop i) = 0
    ·
     rw [if_pos hz] at hd
     have h1 : lead (!c) (l.drop (i + lead c (l.drop i))) ≠ 0 := by
      rw [hz, Nat.add_zero]
      cases hl : l.drop i with
      | nil => exact absurd hl hne0
      | cons x xs =>
       rw [hl] at hz; unfold lead at hz ⊢
       split at hz
       · omega
       ·
        rename_i h
        rw [if_pos (by cases x <;> cases c <;> simp_all)]
        omega
     rw [if_neg h1]
     omega
    ·
     rw [if_neg hz] at hd
     split <;> omega
   rw [ih _ (i + lead c (l.drop i)) (!c) _ (by omega) hm (by rw [List.length_append]; simp only [List.length_cons, List.length_nil]; omega) (by omega)]
   simp
  ·
   rw [if_neg (by omega), List.drop_eq_nil_of_le (by omega)]
   simp
theorem xq (l : List Bool) (hl : (l.length : Int) ≤ 1000000000000) (k : Nat) (hk : 5 * l.length + 7 ≤ k) : cU.f k l = some (lens l) := by
 unfold cU.f lens; have := Nw l hl (2 * l.length + 2) k 0 false [] (by omega) (by split <;> omega) (by simp; omega) (by omega)
 simpa using this
theorem Co (l : List Bool) : (lens l).length ≤ l.length + 1 := by
 have h : ∀ (l : List Bool) (c : Bool) (n : Int), (fl c l n).length ≤ l.length + 1 := by
  intro l
  induction l with
  | nil => intro c n; simp [fl]
  | cons x xs ih =>
   intro c n; unfold fl
   split
   · have := ih c (n + 1); simp only [List.length_cons]; omega
   · have := ih (!c) 1; simp only [List.length_cons]; omega
 unfold lens
 split
 · simp
 · exact h _ _ _
end Go.Proofs.YtfgnjndfnijjoaaGreat.LibH
end
section
namespace Go.Proofs.YtfgnjndfnijjoaaGreat.LibI
open Go.RowKit Go.Proofs.YtfgnjndfnijjoaaGreat.Print Go.Proofs.YtfgnjndfnijjoaaGreatW.PrintWords Go.Proofs.YtfgnjndfnijjoaaGreatW.PrintLast Go.Proofs.YtfgnjndfnijjoaaGreatW.PrintMore Go.Proofs.YtfgnjndfnijjoaaGreat.LibU Go.Proofs.YtfgnjndfnijjoaaGreat.LibV Go.Proofs.YtfgnjndfnijjoaaGreat.LibW Go.Proofs.YtfgnjndfnijjoaaGreat.LibX Go.Proofs.YtfgnjndfnijjoaaGreat.LibD Go.Proofs.YtfgnjndfnijjoaaGreat.LibE Go.Proofs.YtfgnjndfnijjoaaGreat.LibG Go.Proofs.YtfgnjndfnijjoaaGreat.LibH
def least (f : Bool) : Int := if f = true then 0 else 1
def sF (most : Int) : Bool → Bool → List Int → List Bool → List Bool × Bool
  | _, _, [], out => (out, true)
  | c, f, n :: ns, out => if n < least f then ([], false) else if n > most - (out.length : Int) then ([], false) else sF most (!c) false ns (out ++ List.replicate n.toNat c)
def Ok (f : Bool) : List Int → Prop
  | [] => True
  | n :: t => least f ≤ n ∧ Pos t
theorem Cq (t : List Int) : Ok false t ↔ Pos t := by
  cases t with
  | nil => exact ⟨fun _ n hn => by simp at hn, fun _ => trivial⟩
  | cons n t => exact ⟨fun h m hm => by
      rcases List.mem_cons.mp hm with rfl | hm
      · exact h.1
      · exact h.2 m hm, fun h => ⟨h n List.mem_cons_self, fun m hm => h m (List.mem_cons_of_mem _ hm)⟩⟩
open Classical in
theorem PX (most : Int) : ∀ (ns : List Int) (c f : Bool) (out : List Bool), (out.length : Int) ≤ most →
    sF most c f ns out = if Ok f ns ∧ (out.length : Int) + ((sp c ns).length : Int) ≤ most then (out ++ sp c ns, true) else ([], false) := by
  intro ns
  induction ns with
  | nil =>
    intro c f out ho
    simp [sF, Ok, sp, ho]
  | cons n ns ih =>
    intro c f out ho
    have hl : 0 ≤ least f := by unfold least; split <;> omega
    unfold sF sp
    by_cases h1 : n < least f
    · rw [if_pos h1, if_neg (fun h => by have := h.1.1; omega)]
    · rw [if_neg h1]
      rw [List.length_append, List.length_replicate]
      by_cases h2 : n > most - (out.length : Int)
      · rw [if_pos h2, if_neg (fun h => by have := h.2; omega)]
      · rw [if_neg h2, ih (!c) false _ (by rw [List.length_append, List.length_replicate]; omega), List.append_assoc, List.length_append, List.length_replicate]
        by_cases h3 : Ok false ns ∧ ((out.length + n.toNat : Nat) : Int) + ((sp (!c) ns).length : Int) ≤ most
        · rw [if_pos h3, if_pos ⟨⟨by omega, (Cq ns).mp h3.1⟩, by have := h3.2; omega⟩]
        · rw [if_neg h3, if_neg (fun h => h3 ⟨(Cq ns).mpr h.1.2, by have := h.2; omega⟩)]
theorem RG {i : Nat} : mn (i : Int) 1 = least (decide (i = 0)) := by
 unfold mn least
 by_cases h : i = 0
 · subst h; decide
 · simp [h]; omega
def odd (i : Nat) : Bool := decide (i % 2 = 1)
theorem Cr (i : Nat) : odd (i + 1) = !odd i := by
 unfold odd
 rcases Nat.mod_two_eq_zero_or_one i with h | h <;> simp [h] <;> omega
theorem I7 (i : Nat) : ((Int.tmod (i : Int) 2) == 1) = odd i := by
 unfold odd; rw [Int.tmod_eq_emod_of_nonneg (by omega)]
 by_cases h : i % 2 = 1
 · rw [decide_eq_true h, beq_iff_eq]; omega
 · rw [decide_eq_false h, beq_eq_false_iff_ne]; omega
theorem Fq (l : List Int) (i : Nat) (h : i < l.length) : l.drop i = l[i] :: l.drop (i + 1) := List.drop_eq_getElem_cons h
theorem vJ (ns : List Int) (most : Int) (hl : (ns.length : Int) ≤ 1000000000000) (hm : most ≤ 1000000) : ∀ (d k i : Nat) (out : List Bool), i + d = ns.length → d + 1 ≤ k → (out.length : Int) ≤ most →
    bY.l0 k ns most (!odd i) (i : Int) out = some (sF most (odd i) (decide (i = 0)) (ns.drop i) out) := by
 intro d
 induction d with
 | zero =>
  intro k i out hd hk ho; obtain ⟨k, rfl⟩ : ∃ m, k = m + 1 := ⟨k - 1, by omega⟩; unfold bY.l0; rw [if_neg (by omega), List.drop_eq_nil_of_le (by omega)]
  rfl
 | succ d ih =>
  intro k i out hd hk ho; obtain ⟨k, rfl⟩ : ∃ m, k = m + 1 := ⟨k - 1, by omega⟩; have hi : i < ns.length := by omega
  have hle : 0 ≤ least (decide (i = 0)) := by unfold least; split <;> omega
  unfold bY.l0; rw [if_pos (by omega), if_pos (by omega), rd_at ns i hi, Fq ns i hi, RG, w64 (n := most - (out.length : Int)) (by omega) (by omega)]; unfold sF
  by_cases h1 : ns[i] < least (decide (i = 0))
  · rw [if_pos h1, if_pos h1]
  ·
   rw [if_neg h1, if_neg h1]
   by_cases h2 : ns[i] > most - (out.length : Int)
   · rw [if_pos h2, if_pos h2]
   ·
    rw [if_neg h2, if_neg h2]; unfold gy.f; rw [if_pos (by simp), if_pos (by omega)]; simp only [Option.bind_some, List.length_replicate, Bool.not_not]; rw [if_pos (by omega), w64 (by omega) (by omega), show fW false [odd i] 0 = odd i from rfl, show (i : Int) + 1 = ((i + 1 : Nat) : Int) by omega]; have := ih k (i + 1) (out ++ List.replicate ns[i].toNat (odd i)) (by omega) (by omega) (by rw [List.length_append, List.length_replicate]; omega); rw [Cr, Bool.not_not] at this; rw [this]
    simp
theorem I8 (n : Nat) (x : Bool) (out : List Bool) : out ++ [x] ++ List.replicate n x = out ++ List.replicate (n + 1) x := by
 rw [List.append_assoc, List.replicate_succ]; rfl
theorem Li (ns : List Int) (most : Int) (i : Nat) (hi : i < ns.length) (hl : (ns.length : Int) ≤ 1000000000000) (hf : ns[i] ≤ 1000000) : ∀ (d k : Nat) (out : List Bool) (j : Int), 0 ≤ j → j + d = ns[i] → d + 1 ≤ k → (out.length : Int) + d ≤ 1000000 →
    bp.l1 k ns most out (i : Int) j = bp.l0 (k - (d + 1)) ns most (out ++ List.replicate d (odd i)) ((i + 1 : Nat) : Int) := by
 intro d
 induction d with
 | zero =>
  intro k out j h0 hd hk ho; obtain ⟨k, rfl⟩ : ∃ m, k = m + 1 := ⟨k - 1, by omega⟩; unfold bp.l1; rw [if_pos (by omega), if_pos (by omega), rd_at ns i hi, if_neg (by omega), w64 (by omega) (by omega)]
  simp
 | succ d ih =>
  intro k out j h0 hd hk ho; obtain ⟨k, rfl⟩ : ∃ m, k = m + 1 := ⟨k - 1, by omega⟩; unfold bp.l1; rw [if_pos (by omega), if_pos (by omega), rd_at ns i hi, if_pos (by omega), if_pos (by omega), w64 (n := j + 1) (by omega) (by omega), I7]; rw [ih k _ (j + 1) (by omega) (by omega) (by omega) (by simp; omega), I8]
  congr 1
  omega
theorem Cs (ns : List Int) (most : Int) (hl : (ns.length : Int) ≤ 1000000000000) (hm : most ≤ 1000000) (K : Nat) (hK : 1000004 ≤ K) : ∀ (d k i : Nat) (out : List Bool), i + d = ns.length → d * K + 1 ≤ k → (out.length : Int) ≤ most →
    bp.l0 k ns most out (i : Int) = some (sF most (odd i) (decide (i = 0)) (ns.drop i) out) := by
 intro d
 induction d with
 | zero =>
  intro k i out hd hk ho; obtain ⟨k, rfl⟩ : ∃ m, k = m + 1 := ⟨k - 1, by omega⟩; unfold bp.l0; rw [if_neg (by omega), List.drop_eq_nil_of_le (by omega)]
  rfl
 | succ d ih =>
  intro k i out hd hk ho; rw [Nat.succ_mul] at hk; generalize d * K = D at hk ih; obtain ⟨k, rfl⟩ : ∃ m, k = m + 2 := ⟨k - 2, by omega⟩; have hi : i < ns.length := by omega
  unfold bp.l0; rw [if_pos (by omega), if_pos (by omega), rd_at ns i hi, Fq ns i hi, w64 (n := most - (out.length : Int)) (by omega) (by omega)]
  have hj : ∀ X : Bool, X = decide (ns[i] < least (decide (i = 0)) ∨ ns[i] > most - (out.length : Int)) → 0 ≤ ns[i] ∨ X = true → bp.j2 (k + 1) ns most out (i : Int) X = some (sF most (odd i) (decide (i = 0)) (ns[i] :: ns.drop (i + 1)) out) := by
   rintro X hX h0; unfold sF; simp only [bp.j2]
   by_cases h1 : ns[i] < least (decide (i = 0))
   · rw [if_pos h1, if_pos (by rw [hX]; exact decide_eq_true (.inl h1))]
   ·
    rw [if_neg h1]
    by_cases h2 : ns[i] > most - (out.length : Int)
    · rw [if_pos h2, if_pos (by rw [hX]; exact decide_eq_true (.inr h2))]
    ·
     have hXf : X = false := by rw [hX]; exact decide_eq_false (fun h => h.elim h1 h2)
     rw [if_neg h2, if_neg (by rw [hXf]; simp)]; have h0 : 0 ≤ ns[i] := h0.elim id (fun h => by rw [hXf] at h; cases h); rw [Li ns most i hi hl (by omega) ns[i].toNat k out 0 (by omega) (by omega) (by omega) (by omega)]; rw [ih _ (i + 1) _ (by omega) (by omega) (by rw [List.length_append, List.length_replicate]; omega), Cr]
     simp
  by_cases h1 : ns[i] < 0
  ·
   rw [if_pos h1]; refine hj true ?_ (.inr rfl)
   symm
   refine decide_eq_true (.inl ?_); unfold least
   split <;> omega
  ·
   rw [if_neg h1]
   by_cases h2 : ns[i] = 0
   ·
    rw [if_pos h2]
    by_cases h3 : (i : Int) > 0
    ·
     rw [if_pos h3]; refine hj true ?_ (.inr rfl)
     symm
     refine decide_eq_true (.inl ?_); unfold least; rw [if_neg (by simp; omega)]
     omega
    ·
     rw [if_neg h3]; refine hj _ ?_ (.inl (by omega)); have hl0 : least (decide (i = 0)) = 0 := by unfold least; rw [if_pos (by simp; omega)]
     rw [decide_eq_decide, hl0]
     omega
   ·
    rw [if_neg h2]; refine hj _ ?_ (.inl (by omega)); rw [decide_eq_decide]; unfold least
    split <;> omega
open Classical in
noncomputable def kA (ns : List Int) (most : Int) : List Bool × Bool := if tY ns ∧ 0 ≤ most ∧ ((sp false ns).length : Int) ≤ most then (sp false ns, true) else ([], false)
theorem uV (ns : List Int) (most : Int) (hl : (ns.length : Int) ≤ 1000000000000) (hm : most ≤ 1000000) (hm0 : -9223372036854775808 ≤ most) (k K : Nat) (hK : 1000004 ≤ K) (hk : ns.length * K + ns.length + 3 ≤ k) :
    bY.f k ns most = some (kA ns most) ∧ bp.f k ns most = some (kA ns most) := by
 obtain ⟨k, rfl⟩ : ∃ m, k = m + 1 := ⟨k - 1, by omega⟩; unfold bY.f bp.f; have no : ¬ (tY ns ∧ 0 ≤ most ∧ ((sp false ns).length : Int) ≤ most) → kA ns most = ([], false) := fun h => by unfold kA; rw [if_neg h]
 by_cases h1 : most < 0
 ·
  rw [if_pos h1, if_pos h1, no (fun h => by have := h.2.1; omega)]; exact ⟨rfl, rfl⟩
 ·
  rw [if_neg h1, if_neg h1]
  have go : ¬ (ns.length = 1 ∧ rd ns 0 = 0) → sF most false true ns [] = kA ns most := fun hne => by
   rw [PX most ns false true [] (by simp; omega)]; unfold kA
   have hiff : (Ok true ns ∧ (([] : List Bool).length : Int) + ((sp false ns).length : Int) ≤ most) ↔ (tY ns ∧ 0 ≤ most ∧ ((sp false ns).length : Int) ≤ most) := by
    simp only [List.length_nil]
    constructor
    ·
     rintro ⟨h2, h3⟩; refine ⟨?_, by omega, by omega⟩
     cases ns with
     | nil => exact .inl rfl
     | cons n t =>
      refine .inr ⟨n, t, rfl, ?_, h2.2, fun h4 => hne ⟨by rw [h4.2]; rfl, h4.1⟩⟩; have := h2.1
      simpa [least] using this
    ·
     rintro ⟨h2, h3, h4⟩; refine ⟨?_, by omega⟩
     rcases h2 with rfl | ⟨n, t, rfl, h5, h6, _⟩
     · trivial
     · exact ⟨by simpa [least] using h5, h6⟩
   by_cases hc : Ok true ns ∧ (([] : List Bool).length : Int) + ((sp false ns).length : Int) ≤ most
   · rw [if_pos hc, if_pos (hiff.mp hc), List.nil_append]
   · rw [if_neg hc, if_neg (fun h => hc (hiff.mpr h))]
  have e1 : bY.l0 (k + 1) ns most true 0 [] = some (sF most false true ns []) := vJ ns most hl hm ns.length (k + 1) 0 [] (by omega) (by omega) (by simp; omega); have e2 : bp.l0 k ns most [] 0 = some (sF most false true ns []) := Cs ns most hl hm K hK ns.length k 0 [] (by omega) (by omega) (by simp; omega)
  by_cases h2 : ns.length = 1 ∧ rd ns 0 = 0
  ·
   rw [if_pos h2, if_pos (by omega), if_pos (by omega), h2.2]; simp only [bp.j0, beq_self_eq_true, if_true]; rw [no ?_]
   · exact ⟨rfl, rfl⟩
   ·
    rintro ⟨h3, _, _⟩
    rcases h3 with rfl | ⟨n, t, rfl, _, _, h4⟩
    · simp at h2
    ·
     have ht : t = [] := by have := h2.1; simp only [List.length_cons] at this; exact List.length_eq_zero_iff.mp (by omega)
     exact h4 ⟨by have := h2.2; simpa [rd] using this, ht⟩
  ·
   rw [if_neg h2, e1, go h2]; refine ⟨rfl, ?_⟩
   by_cases h3 : (ns.length : Int) = 1
   ·
    rw [if_pos h3, if_pos (by omega)]; have h4 : rd ns 0 ≠ 0 := fun h => h2 ⟨by omega, h⟩
    simp only [bp.j0]; rw [if_neg (by simpa using h4), e2, go h2]
   ·
    rw [if_neg h3]; simp only [bp.j0, Bool.false_eq_true, if_false]; rw [e2, go h2]
def cnt (l : List Bool) : Int := ((l.filter id).length : Int)
theorem vK (x : Bool) (l : List Bool) : cnt (x :: l) = (if x = true then 1 else 0) + cnt l := by
 unfold cnt
 cases x <;> simp <;> omega
theorem rS (l : List Bool) : 0 ≤ cnt l ∧ cnt l ≤ l.length := by
 unfold cnt; have := List.length_filter_le id l
 omega
theorem PY (l : List Bool) (i : Nat) (h : i < l.length) : l.drop i = l[i] :: l.drop (i + 1) := List.drop_eq_getElem_cons h
theorem Lj (l : List Bool) (hl : (l.length : Int) ≤ 1000000000000) : ∀ (d k i : Nat) (n : Int), i + d = l.length → d + 1 ≤ k → 0 ≤ n → n ≤ i →
    cD.l0 k n l (l.length : Int) (i : Int) = some (n + cnt (l.drop i)) ∧ fK.l0 k l n (i : Int) = some (n + cnt (l.drop i)) := by
 intro d
 induction d with
 | zero =>
  intro k i n hd hk h0 hn; obtain ⟨k, rfl⟩ : ∃ m, k = m + 1 := ⟨k - 1, by omega⟩
  constructor
  ·
   unfold cD.l0; rw [if_neg (by omega), List.drop_eq_nil_of_le (by omega)]
   simp [cnt]
  ·
   unfold fK.l0; rw [if_neg (by omega), List.drop_eq_nil_of_le (by omega)]
   simp [cnt]
 | succ d ih =>
  intro k i n hd hk h0 hn; obtain ⟨k, rfl⟩ : ∃ m, k = m + 1 := ⟨k - 1, by omega⟩; have hi : i < l.length := by omega
  have h1 : wrap64 ((i : Int) + 1) = ((i + 1 : Nat) : Int) := by rw [w64 (by omega) (by omega)]; omega
  have h2 : wrap64 (n + 1) = n + 1 := w64 (by omega) (by omega); rw [PY l i hi, vK]
  constructor
  ·
   unfold cD.l0; rw [if_pos (by omega), if_pos (by omega), if_pos (by omega), xo l i hi, h1, h2]
   by_cases hx : l[i] = true
   · rw [if_pos hx, if_pos hx, (ih k (i + 1) (n + 1) (by omega) (by omega) (by omega) (by omega)).1, Int.add_assoc]
   · rw [if_neg hx, if_neg hx, (ih k (i + 1) n (by omega) (by omega) (by omega) (by omega)).1, Int.zero_add]
  ·
   unfold fK.l0; rw [if_pos (by omega), if_pos (by omega), xo l i hi, h1, h2]
   by_cases hx : l[i] = true
   · rw [if_pos hx, if_pos hx, (ih k (i + 1) (n + 1) (by omega) (by omega) (by omega) (by omega)).2, Int.add_assoc]
   · rw [if_neg hx, if_neg hx, (ih k (i + 1) n (by omega) (by omega) (by omega) (by omega)).2, Int.zero_add]
theorem xu (l : List Bool) (hl : (l.length : Int) ≤ 1000000000000) (k : Nat) (hk : l.length + 1 ≤ k) : cD.f k l = some (cnt l) ∧ fK.f k l = some (cnt l) := by
 have := Lj l hl l.length k 0 0 (by omega) (by omega) (by omega) (by omega); simp only [Int.natCast_zero, List.drop_zero, Int.zero_add] at this; exact this
noncomputable def gJ : List Int → ByteArray
  | [] => ig
  | n :: ns => put n ++ gJ ns
def WfN (ns : List Int) : Prop := ∀ n ∈ ns, 0 ≤ n ∧ n < 9223372036854775808
theorem zq : ∀ ns : List Int, (gJ ns).size ≤ 10 * ns.length
  | [] => Nat.zero_le _
  | n :: ns => by
    have := zq ns
    have := put_size n
    unfold gJ
    simp only [ByteArray.size_append, List.length_cons]
    omega
theorem Gt (k : Nat) (hk : 10 ≤ k) : ∀ (l : List Int) (acc : ByteArray), WfN l → acc.size + 10 * l.length ≤ 140737488355328 → cS.g k l acc = some (acc ++ gJ l)
  | [], acc, _, _ => by simp only [cS.g, gJ, app_no]
  | x :: xs, acc, hw, hs => by
    have hx := hw x List.mem_cons_self
    have h0 := put_size x
    simp only [List.length_cons] at hs
    unfold cS.g
    rw [w64' hx.1 (by omega), (put_both x hx.1 (by omega) k hk).1]
    simp only [Option.bind_some]
    rw [if_pos (by omega), Gt k hk xs _ (fun r hr => hw r (List.mem_cons_of_mem _ hr)) (by simp only [ByteArray.size_append]; omega)]
    simp only [gJ, ByteArray.append_assoc]
theorem Gu (ns : List Int) (hl : (ns.length : Int) ≤ 1000000000000) (hw : WfN ns) : ∀ (d k i : Nat) (acc : ByteArray), i + d = ns.length → d + 11 ≤ k → acc.size + 10 * d ≤ 9223372036854775807 →
    fC.l0 k ns acc (i : Int) = some (acc ++ gJ (ns.drop i)) := by
 intro d
 induction d with
 | zero =>
  intro k i acc hd hk hs; obtain ⟨k, rfl⟩ : ∃ m, k = m + 1 := ⟨k - 1, by omega⟩; unfold fC.l0; rw [if_neg (by omega), List.drop_eq_nil_of_le (by omega)]; simp only [gJ, app_no]
 | succ d ih =>
  intro k i acc hd hk hs; obtain ⟨k, rfl⟩ : ∃ m, k = m + 1 := ⟨k - 1, by omega⟩; have hi : i < ns.length := by omega
  have hx := hw ns[i] (List.getElem_mem hi); have h0 := put_size ns[i]; unfold fC.l0; rw [if_pos (by omega), if_pos (by omega), rd_at ns i hi, w64' hx.1 (by omega), (put_both ns[i] hx.1 (by omega) k (by omega)).2]; simp only [Option.bind_some]; rw [if_pos (by omega), w64 (by omega) (by omega), show (i : Int) + 1 = ((i + 1 : Nat) : Int) by omega]; rw [ih k (i + 1) _ (by omega) (by omega) (by simp only [ByteArray.size_append]; omega), Fq ns i hi]; simp only [gJ, ByteArray.append_assoc]
theorem Gv : ∀ (ns : List Int) (c : Bool), (∀ n ∈ ns, 0 ≤ n) → ∀ n ∈ ns, n ≤ ((sp c ns).length : Int)
  | [], _, _, n, hn => by simp at hn
  | m :: ns, c, h, n, hn => by
    have h0 := h m List.mem_cons_self
    unfold sp
    rw [List.length_append, List.length_replicate]
    rcases List.mem_cons.mp hn with rfl | hn
    · omega
    · have := Gv ns (!c) (fun x hx => h x (List.mem_cons_of_mem _ hx)) n hn
      omega
theorem Fs {ns : List Int} (h : tY ns) : ∀ n ∈ ns, 0 ≤ n := fun n hn => by
  rcases h with rfl | ⟨m, t, rfl, h0, hp, _⟩
  · simp at hn
  · rcases List.mem_cons.mp hn with rfl | hn
    · exact h0
    · have := hp n hn; omega
theorem Dp {l : List Bool} (hl : (l.length : Int) ≤ 1000000000000) : WfN (lens l) := fun n hn => by
  have h0 := Fs (Cl l)
  have := Gv (lens l) false h0 n hn
  rw [yU] at this
  have := h0 n hn
  omega
theorem zu (l : List Bool) (hl : (l.length : Int) ≤ 1000000000) (k : Nat) (hk : 5 * l.length + 20 ≤ k) : cS.f k l = some (gJ (lens l)) ∧ fC.f k l = some (gJ (lens l)) := by
 have hw := Dp (l := l) (by omega); have hn := Co l; have he : ByteArray.empty = ig := rfl; have h0 : ig.size = 0 := rfl
 constructor
 ·
  unfold cS.f; rw [Cm l (by omega) k (by omega)]; simp only [Option.bind_some]; rw [if_pos (by omega), Gt k (by omega) _ _ hw (by rw [he, h0]; omega), he, no_app]
 ·
  unfold fC.f; rw [xq l (by omega) k (by omega)]; simp only [Option.bind_some]; have := Gu (lens l) (by omega) hw (lens l).length k 0 ig (by omega) (by omega) (by rw [h0]; omega); simp only [Int.natCast_zero, List.drop_zero, no_app] at this; exact this
end Go.Proofs.YtfgnjndfnijjoaaGreat.LibI
end
section
namespace Go.Proofs.YtfgnjndfnijjoaaGreat.LibJ
open Go.RowKit Go.Proofs.YtfgnjndfnijjoaaGreat.Print Go.Proofs.YtfgnjndfnijjoaaGreatW.PrintWords Go.Proofs.YtfgnjndfnijjoaaGreatW.PrintLast Go.Proofs.YtfgnjndfnijjoaaGreatW.PrintMore Go.Proofs.YtfgnjndfnijjoaaGreat.LibU Go.Proofs.YtfgnjndfnijjoaaGreat.LibV Go.Proofs.YtfgnjndfnijjoaaGreat.LibD Go.Proofs.YtfgnjndfnijjoaaGreat.LibE Go.Proofs.YtfgnjndfnijjoaaGreat.LibG Go.Proofs.YtfgnjndfnijjoaaGreat.LibH Go.Proofs.YtfgnjndfnijjoaaGreat.LibI
open Go.Proofs.YtfgnjndfnijjoaaGreat.LibW (put put_size no_app app_no rd_at)
open Go.Proofs.YtfgnjndfnijjoaaGreat.LibX (numT num_numT numT_size numT_range numT_put numT_was noText_of num_err w64')
def nM (ns : List Int) : Prop := ns = [] ∨ ∃ n t, ns = n :: t ∧ 0 ≤ n ∧ Pos t
theorem sQ (ns : List Int) : tY ns ↔ nM ns ∧ ns ≠ [0] := by
 constructor
 ·
  rintro (rfl | ⟨n, t, rfl, h0, hp, hn⟩)
  · exact ⟨.inl rfl, by simp⟩
  ·
   refine ⟨.inr ⟨n, t, rfl, h0, hp⟩, fun h => ?_⟩
   injection h with h1 h2
   exact hn ⟨h1, h2⟩
 ·
  rintro ⟨rfl | ⟨n, t, rfl, h0, hp⟩, hn⟩
  · exact .inl rfl
  ·
   refine .inr ⟨n, t, rfl, h0, hp, fun h => hn ?_⟩; rw [h.1, h.2]
theorem vL {ns : List Int} (h : nM ns) {v : Int} (h0 : 0 ≤ v) (hv : ¬ (v = 0 ∧ ns ≠ [])) : nM (ns ++ [v]) := by
 rcases h with rfl | ⟨n, t, rfl, h1, hp⟩
 · exact .inr ⟨v, [], rfl, h0, fun m hm => by simp at hm⟩
 ·
  refine .inr ⟨n, t ++ [v], by simp, h1, fun m hm => ?_⟩
  rcases List.mem_append.mp hm with hm | hm
  · exact hp m hm
  ·
   simp at hm
   subst hm; have : ¬ m = 0 := fun h => hv ⟨h, by simp⟩
   omega
theorem Gw : ∀ {b a : List Int}, nM (a ++ b) → nM a := fun {b a} h => by
  rcases h with h | ⟨n, t, he, h0, hp⟩
  · exact .inl (List.append_eq_nil_iff.mp h).1
  · cases a with
    | nil => exact .inl rfl
    | cons m a =>
      injection he with h1 h2
      subst h1
      exact .inr ⟨m, a, rfl, h0, fun x hx => hp x (by rw [← h2]; exact List.mem_append_left _ hx)⟩
theorem I9 {a : List Int} {v : Int} (h : nM (a ++ [v])) : 0 ≤ v ∧ ¬ (v = 0 ∧ a ≠ []) := by
 rcases h with h | ⟨n, t, he, h0, hp⟩
 · simp at h
 ·
  cases a with
  | nil => simp at he; rw [he.1]; exact ⟨h0, fun h => h.2 rfl⟩
  | cons m a =>
   injection he with h1 h2
   have := hp v (by rw [← h2]; simp); exact ⟨by omega, fun h => by omega⟩
theorem yX : ∀ (ns : List Int) (c : Bool) (v : Int), (sp c (ns ++ [v])).length = (sp c ns).length + v.toNat
  | [], c, v => by simp [sp]
  | n :: ns, c, v => by
    show (sp c (n :: (ns ++ [v]))).length = _
    unfold sp
    rw [List.length_append, List.length_append, yX ns (!c) v]
    omega
theorem Dq {ns : List Int} (h : nM ns) : (ns.length : Int) ≤ (sp false ns).length + 1 := by
 have hpos : ∀ (t : List Int) (c : Bool), Pos t → t.length ≤ (sp c t).length := by
  intro t
  induction t with
  | nil => intro c _; exact Nat.zero_le _
  | cons m t ih =>
   intro c hp; have h1 := hp m List.mem_cons_self; have := ih (!c) (fun x hx => hp x (List.mem_cons_of_mem _ hx)); unfold sp; rw [List.length_append, List.length_replicate, List.length_cons]
   omega
 rcases h with rfl | ⟨n, t, rfl, h0, hp⟩
 ·
  show (0 : Int) ≤ _
  omega
 ·
  have := hpos t true hp; unfold sp; rw [List.length_append, List.length_replicate, List.length_cons]; simp only [Bool.not_false]
  omega
open Classical in
noncomputable def dF : Nat → ByteArray → List Int → Int → List Int × Int
  | 0, _, ns, _ => (ns, 99)
  | d + 1, s, ns, left =>
    if s.size = 0 then (if ns = [0] ∨ left > 0 then ([], 5) else (ns, 0)) else
    if (numT s).2.2 ≠ 0 then ([], (numT s).2.2) else
    if (numT s).1 > left ∨ ((numT s).1 = 0 ∧ ns ≠ []) then ([], 5) else
    dF d (numT s).2.1 (ns ++ [(numT s).1]) (left - (numT s).1)
def sR (p : List Int × Int) : List Bool × Int := if p.2 = 0 then (sp false p.1, 0) else ([], p.2)
theorem Gx {ns : List Int} (hp : nM ns) {n left : Int} (h0 : 0 ≤ left) (hn : 0 ≤ n) (hl : left + (sp false ns).length = n) : kA ns n = if ns = [0] then ([], false) else (sp false ns, true) := by
 unfold kA
 by_cases h : ns = [0]
 · rw [if_pos h, if_neg (fun h' => ((sQ ns).mp h'.1).2 h)]
 · rw [if_neg h, if_pos ⟨(sQ ns).mpr ⟨hp, h⟩, hn, by omega⟩]
theorem PZ (n : Int) (hn0 : 0 ≤ n) (hn : n ≤ 4096) (K : Nat) (hK : 1000004 ≤ K) : ∀ (d k : Nat) (s : ByteArray) (ns : List Int) (left : Int), s.size < d → s.size ≤ 9223372036854775000 → d * K + 5000 * K + 5000 ≤ k → nM ns → 0 ≤ left → left + (sp false ns).length = n →
    ck.l0 k n ns left s 0 = some (sR (dF d s ns left)) := by
 intro d
 induction d with
 | zero => intro k s ns left hd; omega
 | succ d ih =>
  intro k s ns left hd hs hk hm h0 hl; obtain ⟨k, rfl⟩ : ∃ m, k = m + 1 := ⟨k - 1, by omega⟩; rw [Nat.succ_mul] at hk; have hrl := Dq hm; have hmul : ns.length * K ≤ 4097 * K := Nat.mul_le_mul_right K (by omega); unfold ck.l0 dF; simp only [aV.f, Option.bind_some]
  by_cases hz : s.size = 0
  ·
   rw [if_neg (by omega), if_pos hz, (uV ns n (by omega) (by omega) (by omega) k K hK (by omega)).1, Gx hm h0 hn0 hl]; simp only [Option.bind_some]
   by_cases h1 : ns = [0]
   · rw [if_pos h1, if_pos (c := _ ∨ _) (.inl h1)]; rfl
   ·
    rw [if_neg h1]
    by_cases h2 : left > 0
    · rw [if_pos rfl, if_pos h2, if_pos (.inr h2)]; rfl
    · rw [if_pos rfl, if_neg h2, if_neg (fun h => h.elim h1 h2)]; rfl
  ·
   have r1 := numT_range s hs; have z1 := numT_size s; rw [if_pos (by omega), if_neg hz, num_numT s hs]; simp only [Option.bind_some, bh.f]
   by_cases e1 : (numT s).2.2 = 0
   ·
    rw [if_pos e1, if_neg (c := _ ≠ _) (fun h => h e1), e1, w64' (x := left) h0 (by omega)]
    by_cases c1 : (numT s).1 > left
    · rw [if_pos c1, if_pos (.inl c1)]; rfl
    ·
     rw [if_neg c1, w64 (n := (numT s).1) (by omega) (by omega), w64 (n := left - (numT s).1) (by omega) (by omega)]
     have go : ¬ ((numT s).1 = 0 ∧ ns ≠ []) → ck.l0 k n (ns ++ [(numT s).1]) (left - (numT s).1) (numT s).2.1 0 = some (sR (dF d (numT s).2.1 (ns ++ [(numT s).1]) (left - (numT s).1))) := fun c2 =>
      ih k (numT s).2.1 (ns ++ [(numT s).1]) (left - (numT s).1) (by have := r1.2.2 e1; omega) (by omega) (by omega) (vL hm r1.1 c2) (by omega) (by rw [yX]; omega)
     by_cases c2 : (numT s).1 = 0
     ·
      rw [if_pos c2]
      by_cases c3 : (ns.length : Int) > 0
      ·
       have hne : ns ≠ [] := by rintro rfl; simp at c3
       rw [if_pos c3, if_pos (.inr ⟨c2, hne⟩)]; rfl
      ·
       have hne : ns = [] := List.length_eq_zero_iff.mp (by omega); rw [if_neg c3, if_pos (by omega), if_neg (c := _ ∨ _) (fun h => h.elim c1 (fun h => h.2 hne))]; exact go (fun h => h.2 hne)
     ·
      rw [if_neg c2, if_pos (by omega), if_neg (c := _ ∨ _) (fun h => h.elim c1 (fun h => c2 h.1))]; exact go (fun h => c2 h.1)
   ·
    rw [if_neg e1, if_pos e1]; unfold sR; rw [if_neg e1]
theorem Cb (n : Int) (hn0 : 0 ≤ n) (hn : n ≤ 4096) (S : ByteArray) (K : Nat) (hK : 1000004 ≤ K) : ∀ (d k : Nat) (s : ByteArray) (a : Int) (ns : List Int) (left : Int), s.size < d → Sim S a s → d * K + 5000 * K + 5000 ≤ k → nM ns → 0 ≤ left → left + (sp false ns).length = n →
    eX.l0 k n ns left S a 0 = some (sR (dF d s ns left)) := by
 intro d
 induction d with
 | zero => intro k s a ns left hd; omega
 | succ d ih =>
  intro k s a ns left hd hS hk hm h0 hl; obtain ⟨k, rfl⟩ : ∃ m, k = m + 1 := ⟨k - 1, by omega⟩; rw [Nat.succ_mul] at hk; have hrl := Dq hm; have hmul : ns.length * K ≤ 4097 * K := Nat.mul_le_mul_right K (by omega); have hsz := hS.size; have hlo := hS.lo; have hbig := hS.big; have hs : s.size ≤ 9223372036854775000 := by omega
  unfold eX.l0 dF; rw [(hS.left 0).2]; simp only [Option.bind_some]
  by_cases hz : s.size = 0
  ·
   rw [if_neg (by omega), if_pos hz, (uV ns n (by omega) (by omega) (by omega) k K hK (by omega)).2, Gx hm h0 hn0 hl]; simp only [Option.bind_some]
   by_cases h1 : ns = [0]
   · rw [if_pos h1, if_pos (c := _ ∨ _) (.inl h1)]; rfl
   ·
    rw [if_neg h1]
    by_cases h2 : left > 0
    · rw [if_pos rfl, if_pos h2, if_pos (.inr h2)]; rfl
    · rw [if_pos rfl, if_neg h2, if_neg (fun h => h.elim h1 h2)]; rfl
  ·
   have r1 := numT_range s hs; have z1 := numT_size s; rw [if_pos (by omega), if_neg hz]; obtain ⟨v, s1, e1', a1, hp, hr, hS1, _, _, _, _, _, hf1⟩ := hS.num 0; rw [num_numT s hs] at hp
   obtain ⟨hv1, hs1, he1⟩ : (numT s).1 = v ∧ (numT s).2.1 = s1 ∧ (numT s).2.2 = e1' := by
    have := Option.some.inj hp; rw [this]; exact ⟨rfl, rfl, rfl⟩
   rw [hr k (by omega)]; simp only [Option.bind_some]; rw [hs1, hv1, he1] at r1; rw [hs1] at z1; rw [hs1, he1, hv1]
   by_cases e1 : e1' = 0
   ·
    rw [if_pos e1, if_neg (c := _ ≠ _) (fun h => h e1), e1, w64' (x := left) h0 (by omega)]
    by_cases c1 : v > left
    · rw [if_pos c1, if_pos (.inl c1)]; rfl
    ·
     rw [if_neg c1, w64 (n := v) (by omega) (by omega), w64 (n := left - v) (by omega) (by omega)]
     have go : ¬ (v = 0 ∧ ns ≠ []) → eX.l0 k n (ns ++ [v]) (left - v) S a1 0 = some (sR (dF d s1 (ns ++ [v]) (left - v))) := fun c2 =>
      ih k s1 a1 (ns ++ [v]) (left - v) (by have := r1.2.2 e1; omega) hS1 (by omega) (vL hm r1.1 c2) (by omega) (by rw [yX]; omega)
     by_cases c2 : v = 0
     ·
      rw [if_pos c2]
      by_cases c3 : (ns.length : Int) > 0
      ·
       have hne : ns ≠ [] := by rintro rfl; simp at c3
       rw [if_pos c3, if_pos (.inr ⟨c2, hne⟩)]; rfl
      ·
       have hne : ns = [] := List.length_eq_zero_iff.mp (by omega); rw [if_neg c3, if_pos (by omega), if_neg (c := _ ∨ _) (fun h => h.elim c1 (fun h => h.2 hne))]; exact go (fun h => h.2 hne)
     ·
      rw [if_neg c2, if_pos (by omega), if_neg (c := _ ∨ _) (fun h => h.elim c1 (fun h => c2 h.1))]; exact go (fun h => c2 h.1)
   ·
    rw [if_neg e1, if_pos e1]; unfold sR; rw [if_neg e1]
noncomputable def fE (s : ByteArray) (n : Int) : List Bool × Int := if n < 0 then ([], 1) else if n > 4096 then ([], 10) else sR (dF (s.size + 1) s [] n)
theorem Ct (s : ByteArray) (hs : s.size ≤ 140737488351232) (n : Int) (K : Nat) (hK : 1000004 ≤ K) (k : Nat) (hk : (s.size + 1) * K + 5000 * K + 5000 ≤ k) : ck.f k s n = some (fE s n) ∧ eX.f k s n = some (fE s n) := by
 unfold ck.f eX.f fE
 by_cases h0 : n < 0
 · rw [if_pos h0, if_pos h0, if_pos h0]; exact ⟨rfl, rfl⟩
 ·
  by_cases h1 : n > 4096
  · rw [if_neg h0, if_pos h1, if_neg h0, if_pos h1, if_neg h0, if_pos h1]; exact ⟨rfl, rfl⟩
  ·
   rw [if_neg h0, if_neg h1, if_neg h0, if_neg h1, if_neg h0, if_neg h1]
   constructor
   ·
    simp only [eD.f, Option.bind_some]; exact PZ n (by omega) (by omega) K hK (s.size + 1) k s [] n (by omega) (by omega) hk (.inl rfl) (by omega) (by simp [sp])
   ·
    have hS := Sim.begin s hs 0 (by omega) (by omega); have hx : s.extract (0 : Int).toNat s.size = s := by simp
    rw [hx] at hS; exact Cb n (by omega) (by omega) s K hK (s.size + 1) k s 0 [] n (by omega) hS hk (.inl rfl) (by omega) (by simp [sp])
theorem Cu : ∀ (a : List Int) (c : Bool) (b : List Int), (∀ n ∈ b, 0 ≤ n) → (sp c (a ++ b)).length = (sp c a).length + (sp c b).length
  | [], c, b, _ => by simp [sp]
  | n :: a, c, b, hb => by
    show (sp c (n :: (a ++ b))).length = _
    have h1 := Cu a (!c) b hb
    have h2 := Ck b c hb
    have h3 := Ck b (!c) hb
    have e1 : sp c (n :: (a ++ b)) = List.replicate n.toNat c ++ sp (!c) (a ++ b) := rfl
    have e2 : sp c (n :: a) = List.replicate n.toNat c ++ sp (!c) a := rfl
    rw [e1, e2, List.length_append, List.length_append, h1]
    omega
theorem Nx : ∀ (b : List Int) (d : Nat) (a : List Int) (left : Int), (gJ b).size < d → nM (a ++ b) → WfN b → 0 ≤ left → dF d (gJ b) a left = if ((sp false b).length : Int) = left ∧ a ++ b ≠ [0] then (a ++ b, 0) else ([], 5) := by
 intro b
 induction b with
 | nil =>
  intro d a left hd hm hw h0; obtain ⟨d, rfl⟩ : ∃ m, d = m + 1 := ⟨d - 1, by omega⟩; unfold dF; have hz : (gJ []).size = 0 := rfl; rw [if_pos hz, show sp false [] = [] from rfl, List.append_nil]
  by_cases h : a = [0] ∨ left > 0
  · rw [if_pos h, if_neg (fun h' => h.elim h'.2 (fun h => by have := h'.1; simp at this; omega))]
  · rw [if_neg h, if_pos ⟨by simp; have := fun h' => h (.inr h'); omega, fun h' => h (.inl h')⟩]
 | cons v b ih =>
  intro d a left hd hm hw h0; obtain ⟨d, rfl⟩ : ∃ m, d = m + 1 := ⟨d - 1, by omega⟩; have hr := hw v List.mem_cons_self; have hm' : nM (a ++ [v] ++ b) := by simpa using hm
  have hm2 := I9 (Gw hm'); have p0 := put_size v; have hz : (gJ (v :: b)).size = (put v).size + (gJ b).size := by show (put v ++ gJ b).size = _; rw [ByteArray.size_append]
  have hwb : ∀ n ∈ b, 0 ≤ n := fun n hn => (hw n (List.mem_cons_of_mem _ hn)).1
  have hsp : ((sp false (v :: b)).length : Int) = v + (sp false b).length := by
   have := Cu [v] false b hwb; simp only [List.singleton_append] at this; rw [this]
   simp [sp]
   omega
  unfold dF; rw [if_neg (by omega)]; have he : numT (gJ (v :: b)) = (v, gJ b, 0) := numT_put v hr.1 (by omega) (gJ b); rw [he, hsp]; simp only [ne_eq, not_true_eq_false, if_false]
  by_cases hc : v > left
  · rw [if_pos (.inl hc), if_neg (fun h => by have := h.1; omega)]
  ·
   rw [if_neg (fun h => h.elim hc (fun h => hm2.2 ⟨h.1, h.2⟩))]; rw [ih d (a ++ [v]) (left - v) (by omega) hm' (fun x hx => hw x (List.mem_cons_of_mem _ hx)) (by omega)]; have e : a ++ [v] ++ b = a ++ v :: b := by simp
   rw [e]
   by_cases hq : ((sp false b).length : Int) = left - v ∧ a ++ v :: b ≠ [0]
   · rw [if_pos hq, if_pos ⟨by omega, hq.2⟩]
   · rw [if_neg hq, if_neg (fun h => hq ⟨by omega, h.2⟩)]
theorem Ny : ∀ (d : Nat) (s : ByteArray) (a : List Int) (left : Int), s.size ≤ 9223372036854775000 → nM a → 0 ≤ left → left ≤ 4096 → (dF d s a left).2 = 0 →
    ∃ b, (dF d s a left).1 = a ++ b ∧ s = gJ b ∧ tY (a ++ b) ∧ ((sp false b).length : Int) = left ∧ WfN b := by
 intro d
 induction d with
 | zero => intro s a left _ _ _ _ h; exact absurd h (by simp [dF])
 | succ d ih =>
  intro s a left hs hm h0 h4 h; unfold dF at h ⊢; have r1 := numT_range s hs; have z1 := numT_size s
  by_cases hz : s.size = 0
  ·
   rw [if_pos hz] at h ⊢
   by_cases hp : a = [0] ∨ left > 0
   · rw [if_pos hp] at h; exact absurd h (by simp)
   ·
    rw [if_neg hp]; exact ⟨[], by simp, noText_of hz, by rw [List.append_nil]; exact (sQ a).mpr ⟨hm, fun h' => hp (.inl h')⟩, by simp [sp]; have := fun h' => hp (.inr h'); omega, fun r hr => by simp at hr⟩
  ·
   rw [if_neg hz] at h ⊢
   by_cases e1 : (numT s).2.2 = 0
   ·
    rw [if_neg (c := _ ≠ _) (fun h => h e1)] at h ⊢
    by_cases hc : (numT s).1 > left ∨ ((numT s).1 = 0 ∧ a ≠ [])
    · rw [if_pos hc] at h; exact absurd h (by simp)
    ·
     rw [if_neg hc] at h ⊢; have hc1 : ¬ (numT s).1 > left := fun h => hc (.inl h)
     obtain ⟨b, h1, h2, h3, h4, h5⟩ := ih _ _ _ (by omega) (vL hm r1.1 (fun h => hc (.inr h))) (by omega) (by omega) h
     have hsp : ((sp false ((numT s).1 :: b)).length : Int) = (numT s).1 + (sp false b).length := by
      have := Cu [(numT s).1] false b (fun n hn => (h5 n hn).1); simp only [List.singleton_append] at this; rw [this]
      simp [sp]
      omega
     refine ⟨(numT s).1 :: b, by rw [h1]; simp, ?_, by simpa using h3, by omega, fun r hr => ?_⟩
     ·
      have w1 := numT_was s hs e1; show s = put (numT s).1 ++ gJ b; rw [← h2]; exact w1
     ·
      rcases List.mem_cons.mp hr with rfl | hr
      · exact ⟨r1.1, by omega⟩
      · exact h5 r hr
   · rw [if_pos e1] at h; exact absurd h e1
theorem Di (l : List Bool) (hl : (l.length : Int) ≤ 4096) : fE (gJ (lens l)) l.length = (l, 0) ∧ ∀ n : Int, n ≠ l.length → (fE (gJ (lens l)) n).2 ≠ 0 := by
 have hw := Dp (l := l) (by omega); have hmay := (sQ _).mp (Cl l)
 have key : ∀ n : Int, 0 ≤ n → dF ((gJ (lens l)).size + 1) (gJ (lens l)) [] n = if (l.length : Int) = n then (lens l, 0) else ([], 5) := fun n hn => by
  have := Nx (lens l) ((gJ (lens l)).size + 1) [] n (by omega) (by simpa using hmay.1) hw hn; rw [yU, List.nil_append] at this; rw [this]
  by_cases h : (l.length : Int) = n
  · rw [if_pos h, if_pos ⟨h, hmay.2⟩]
  · rw [if_neg h, if_neg (fun h' => h h'.1)]
 constructor
 ·
  unfold fE; rw [if_neg (by omega), if_neg (by omega), key _ (by omega), if_pos rfl]; unfold sR; rw [if_pos rfl, yU]
 ·
  intro n hn; unfold fE
  by_cases h0 : n < 0
  · rw [if_pos h0]; decide
  ·
   by_cases h1 : n > 4096
   · rw [if_neg h0, if_pos h1]; decide
   ·
    rw [if_neg h0, if_neg h1, key n (by omega), if_neg (fun h => hn h.symm)]
    decide
theorem yS (s : ByteArray) (hs : s.size ≤ 140737488351232) (n : Int) : ((fE s n).2 = 0 → ((fE s n).1.length : Int) = n ∧ n ≤ 4096 ∧ gJ (lens (fE s n).1) = s) ∧ ((fE s n).2 ≠ 0 → (fE s n).1 = []) := by
 unfold fE
 by_cases h0 : n < 0
 · rw [if_pos h0]; exact ⟨fun h => absurd h (by decide), fun _ => rfl⟩
 ·
  by_cases h1 : n > 4096
  · rw [if_neg h0, if_pos h1]; exact ⟨fun h => absurd h (by decide), fun _ => rfl⟩
  ·
   rw [if_neg h0, if_neg h1]; unfold sR
   by_cases he : (dF (s.size + 1) s [] n).2 = 0
   ·
    rw [if_pos he]; refine ⟨fun _ => ?_, fun h => absurd rfl h⟩; obtain ⟨b, e1, e2, e3, e4, e5⟩ := Ny (s.size + 1) s [] n (by omega) (.inl rfl) (by omega) (by omega) he; simp only [List.nil_append] at e1 e3; rw [e1]; refine ⟨e4, by omega, ?_⟩; simp only; rw [Lg e3, ← e2]
   ·
    rw [if_neg he]; exact ⟨fun h => absurd h he, fun _ => rfl⟩
theorem Gy (s : ByteArray) (hs : s.size ≤ 140737488351232) (n : Int) : ((fE s n).1.length : Int) ≤ 4096 := by
 have h := yS s hs n
 by_cases he : (fE s n).2 = 0
 · have := h.1 he; omega
 · rw [h.2 he]; decide
end Go.Proofs.YtfgnjndfnijjoaaGreat.LibJ
end
section
namespace Go.Proofs.YtfgnjndfnijjoaaGreat.OpC
set_option linter.unusedSimpArgs false
set_option linter.unusedVariables false
open Go.RowKit Go.Proofs.YtfgnjndfnijjoaaGreat.Print Go.Proofs.YtfgnjndfnijjoaaGreatW.PrintWords Go.Proofs.YtfgnjndfnijjoaaGreatW.PrintLast Go.Proofs.YtfgnjndfnijjoaaGreatW.PrintMore Go.Proofs.YtfgnjndfnijjoaaGreat.LibA Go.Proofs.YtfgnjndfnijjoaaGreat.LibB Go.Proofs.YtfgnjndfnijjoaaGreat.LibC Go.Proofs.YtfgnjndfnijjoaaGreat.LibD Go.Proofs.YtfgnjndfnijjoaaGreat.LibE Go.Proofs.YtfgnjndfnijjoaaGreat.LibG Go.Proofs.YtfgnjndfnijjoaaGreat.RowsA Go.Proofs.YtfgnjndfnijjoaaGreat.RowsC Go.Proofs.YtfgnjndfnijjoaaGreat.RowsD Go.Proofs.YtfgnjndfnijjoaaGreat.OpA Go.Proofs.YtfgnjndfnijjoaaGreat.OpB
open Go.Proofs.YtfgnjndfnijjoaaGreat.LibW (put put_size no_app app_no put_both)
open Go.Proofs.YtfgnjndfnijjoaaGreat.LibX (numT num_numT num_err numT_size numT_range numT_put numT_was noText_of w64')
noncomputable def mq (s : ByteArray) : ByteArray := put s.size ++ s
theorem xw (s : ByteArray) : s.size + 1 ≤ (mq s).size ∧ (mq s).size ≤ s.size + 10 := by
 have := put_size s.size; unfold mq; rw [ByteArray.size_append]
 omega
theorem Dr (s : ByteArray) (hs : s.size ≤ 140737488351232) : Ev (fun k => dm.f k s) (mq s) ∧ Ev (fun k => mK.f k s) (mq s) := by
 have hp := put_size s.size
 constructor
 ·
  simp only [dm.f, w64' (x := (s.size : Int)) (by omega) (by omega)]; refine Ev.bind (xe _ (by omega) (by omega)).1 ?_; simp only [if_pos (show (put s.size).size + s.size ≤ 9223372036854775807 by omega)]; exact Ev.now _
 ·
  simp only [mK.f, w64' (x := (s.size : Int)) (by omega) (by omega)]; refine Ev.bind (xe _ (by omega) (by omega)).2 ?_; simp only [if_pos (show (put s.size).size + s.size ≤ 9223372036854775807 by omega)]; exact Ev.now _
noncomputable def iD (s : ByteArray) : ByteArray × ByteArray × Int :=
  if (numT s).2.2 ≠ 0 then (ig, ig, (numT s).2.2) else if (numT s).1 > ((numT s).2.1.size : Int) then (ig, ig, 2) else ((numT s).2.1.extract 0 (numT s).1.toNat, (numT s).2.1.extract (numT s).1.toNat (numT s).2.1.size, 0)
theorem Gz (s : ByteArray) (hs : s.size ≤ 140737488351232) : Sim s 0 s := by
 have hb := Sim.begin s hs 0 (Int.le_refl _) (by omega); have h2 : s.extract (0 : Int).toNat s.size = s := by simp
 rwa [h2] at hb
theorem Nz (s : ByteArray) (hs : s.size ≤ 140737488351232) : dg.f s = some (iD s) ∧ Ev (fun k => nk.f k s) (iD s) := by
 have hr := numT_range s (by omega); have hz := numT_size s; obtain ⟨a', hn1, h3⟩ := Dm (Gz s hs); have hnn := num_numT s (by omega); unfold dg.f eD.f nk.f iD; generalize hq : numT s = q at hr hz hn1 h3 hnn ⊢; obtain ⟨v, t, e⟩ := q; simp only at hr hz h3 hn1 ⊢; have hsz := h3.size; have hlo := h3.lo; have hbig := h3.big
 by_cases he : e = 0
 ·
  subst he; rw [if_neg (by simp)]; have hl := h3.left 0
  by_cases hv : v > (t.size : Int)
  ·
   rw [if_pos hv]
   constructor
   ·
    simp only [Option.bind_some, hnn, bh.f, if_true, hl.1, w64' (x := (t.size : Int)) (by omega) (by omega), if_pos hv]
    rfl
   ·
    refine Ev.bind hn1 ?_; simp only [if_true, hl.2, Option.bind_some, w64' (x := (t.size : Int)) (by omega) (by omega), if_pos hv]; exact Ev.now _
  ·
   rw [if_neg hv]; have hv0 : 0 ≤ v := hr.1; have htk := h3.take v hv0 (by omega); have hgo := h3.go v hv0 (by omega); have hgs := hgo.size; have hts : ((t.extract v.toNat t.size).size : Int) = t.size - v := by rw [ByteArray.size_extract]; omega
   constructor
   ·
    simp only [Option.bind_some, hnn, bh.f, if_true, hl.1, w64' (x := (t.size : Int)) (by omega) (by omega), if_neg hv, w64 (n := v) (by omega) (by omega), htk.1, (hgo.left 0).1, hts]; rw [show (s.size : Int) - (t.size - v) = a' + v by omega, w64 (n := a' + v) (by omega) (by omega), if_pos (by omega), if_pos (by omega), ← hgo.rest]
   ·
    refine Ev.bind hn1 ?_; simp only [if_true, hl.2, Option.bind_some, w64' (x := (t.size : Int)) (by omega) (by omega), if_neg hv, w64 (n := v) (by omega) (by omega)]; refine Ev.bind (Ev.all 1 htk.2) ?_; simp only [if_pos (show (0 : Int) ≤ a' + v by omega), if_pos (show a' + v ≤ (s.size : Int) by omega), ← hgo.rest]; exact Ev.now _
 ·
  rw [if_pos he]
  constructor
  ·
   simp only [Option.bind_some, hnn, bh.f, if_neg he]
   rfl
  ·
   refine Ev.bind hn1 ?_; simp only [if_neg he]; exact Ev.now _
theorem Ja (a b : ByteArray) (ha : a.size ≤ 140737488351232) : iD (mq a ++ b) = (a, b, 0) := by
 unfold iD mq; rw [ByteArray.append_assoc, numT_put _ (by omega) (by omega)]; simp only; rw [if_neg (by simp), if_neg (by rw [ByteArray.size_append]; omega), Int.toNat_natCast, BU, rP]
theorem Ds (s : ByteArray) (hs : s.size ≤ 140737488351232) : ((iD s).2.2 ≠ 0 → (iD s).1 = ig ∧ (iD s).2.1 = ig) ∧ ((iD s).2.2 = 0 → s = mq (iD s).1 ++ (iD s).2.1) ∧ (iD s).1.size ≤ s.size ∧ (iD s).2.1.size ≤ s.size := by
 have hr := numT_range s (by omega); have hz := numT_size s; have hw := numT_was s (by omega); unfold iD; generalize hq : numT s = q at hr hz hw ⊢; obtain ⟨v, t, e⟩ := q; simp only at hr hz hw ⊢
 by_cases he : e = 0
 ·
  subst he; rw [if_neg (by simp)]
  by_cases hv : v > (t.size : Int)
  ·
   rw [if_pos hv]; exact ⟨fun _ => ⟨rfl, rfl⟩, fun h => absurd h (by decide), Nat.zero_le _, Nat.zero_le _⟩
  ·
   rw [if_neg hv]; have h1 : (t.extract 0 v.toNat).size = v.toNat := size_take (by omega); refine ⟨fun h => absurd rfl h, fun _ => ?_, ?_, ?_⟩
   ·
    simp only [mq, h1]; rw [show ((v.toNat : Nat) : Int) = v by omega, ByteArray.append_assoc, take_drop t v.toNat (by omega)]; exact hw rfl
   · simp only [h1]; omega
   · simp only [ByteArray.size_extract]; omega
 ·
  rw [if_pos he]; exact ⟨fun _ => ⟨rfl, rfl⟩, fun h => absurd h he, Nat.zero_le _, Nat.zero_le _⟩
def fF (l : List Int) : List Bool := l.map fun x => x != 0
def gh (l : List Int) : List Int := l.filter fun x => x != 0
theorem GA (l : List Int) : LibI.cnt (fF l) = (gh l).length := by
 unfold LibI.cnt fF gh; rw [List.filter_map, List.length_map]
 rfl
noncomputable def pG (l : List Int) : ByteArray := mq (LibI.gJ (LibH.lens (fF l))) ++ chX (gh l) 0
theorem tZ (l : List Int) : (gh l).length ≤ l.length := List.length_filter_le _ _
theorem uW (l : List Bool) (hl : l.length ≤ 1000000) : Ev (fun k => cS.f k l) (LibI.gJ (LibH.lens l)) ∧ Ev (fun k => fC.f k l) (LibI.gJ (LibH.lens l)) := ⟨Ev.all (5 * l.length + 20) fun k hk => (LibI.zu l (by omega) k hk).1, Ev.all (5 * l.length + 20) fun k hk => (LibI.zu l (by omega) k hk).2⟩
theorem uc (l : List Bool) : (LibI.gJ (LibH.lens l)).size ≤ 10 * l.length + 10 := by
 have := LibI.zq (LibH.lens l); have := LibH.Co l
 omega
theorem vM {l : List Int} {P : Int → Prop} (h : ∀ x ∈ l, P x) : ∀ x ∈ gh l, P x := fun x hx => h x (List.mem_filter.mp hx).1
theorem Ll (l : List Int) (hl : l.length ≤ 1000000) (hx : ∀ x ∈ l, Cn x) : Ev (fun k => (cS.f k (fF l)).bind fun t120 => ((dm.f k t120).bind fun t121 => ((cW.f k (gh l)).bind fun t122 => (if t121.size + t122.size ≤ 9223372036854775807 then (some (t121 ++ t122)) else (none))))) (pG l) ∧
    Ev (fun k => (fC.f k (fF l)).bind fun RH => ((mK.f k RH).bind fun NA => ((gx.f k (gh l)).bind fun NB => (if NA.size + NB.size ≤ 9223372036854775807 then (some (NA ++ NB)) else (none))))) (pG l) := by
 have h1 : (fF l).length = l.length := by simp [fF]
 have h2 := uc (fF l); have h3 := xw (LibI.gJ (LibH.lens (fF l))); have h4 := sO (gh l) 0; have h5 := tZ l; have hr : ∀ x ∈ gh l, 0 ≤ x ∧ x < 18446744073709551616 := fun x hx' => ⟨(vM hx x hx').lo, (vM hx x hx').hi⟩
 constructor
 ·
  refine Ev.bind (uW _ (by omega)).1 ?_; refine Ev.bind (Dr _ (by omega)).1 ?_; refine Ev.bind (Ns _ hr (by omega)) ?_; simp only [if_pos (show (mq (LibI.gJ (LibH.lens (fF l)))).size + (chX (gh l) 0).size ≤ 9223372036854775807 by omega)]; exact Ev.now _
 ·
  refine Ev.bind (uW _ (by omega)).2 ?_; refine Ev.bind (Dr _ (by omega)).2 ?_; refine Ev.bind (Gp _ hr (by omega)) ?_; simp only [if_pos (show (mq (LibI.gJ (LibH.lens (fF l)))).size + (chX (gh l) 0).size ≤ 9223372036854775807 by omega)]; exact Ev.now _
theorem xx (l : List Int) (i : Nat) (h : i < l.length) : fF (l.take (i + 1)) = fF (l.take i) ++ [l[i] != 0] := by
 rw [List.take_succ_eq_append_getElem h]; simp only [fF, List.map_append, List.map_cons, List.map_nil]
theorem Ft (l : List Int) (i : Nat) (h : i < l.length) : gh (l.take (i + 1)) = if l[i] = 0 then gh (l.take i) else gh (l.take i) ++ [l[i]] := by
 rw [List.take_succ_eq_append_getElem h]
 by_cases hz : l[i] = 0
 · rw [if_pos hz]; simp only [gh, List.filter_append, List.filter_cons, hz, bne_self_eq_false, Bool.false_eq_true, if_false, List.filter_nil, List.append_nil]
 · rw [if_neg hz]; simp only [gh, List.filter_append, List.filter_cons, bne_iff_ne.mpr hz, if_true, List.filter_nil]
theorem Dt (l : List Int) (hl : l.length ≤ 1000000) (hx : ∀ x ∈ l, Cn x) : ∀ (d i : Nat), i + d = l.length → Ev (fun k => bg.l0 k (fF (l.take i) ++ List.replicate d false) (gh (l.take i)) l (l.length : Int) (i : Int)) (pG l)
  | 0, i, hi => by
    refine Ev.succ ?_
    simp only [bg.l0, if_neg (show ¬ (i : Int) < (l.length : Int) by omega)]
    rw [List.take_of_length_le (by omega)]
    simp only [List.replicate_zero, List.append_nil]
    exact (Ll l hl hx).1
  | d + 1, i, hi => by
    refine Ev.succ ?_
    have hil : i < l.length := by omega
    have hs1 : (fF (l.take i)).length = i := by simp [fF]; omega
    have hr1 := tZ (l.take i)
    rw [List.length_take] at hr1
    simp only [bg.l0, if_pos (show (i : Int) < (l.length : Int) by omega), if_pos (show (0 : Int) ≤ (i : Int) by omega), xh l i hil, (rQ _).1, Option.bind_some, List.length_append, hs1, List.length_replicate, if_pos (show (i : Int) < ((i + (d + 1) : Nat) : Int) by omega), Int.toNat_natCast, w64 (show -9223372036854775808 ≤ (i : Int) + 1 by omega) (by omega), if_pos (show (gh (l.take i)).length < 17592186044416 by omega)]
    have hset : (fF (l.take i) ++ List.replicate (d + 1) false).set i (l[i] != 0) = fF (l.take (i + 1)) ++ List.replicate d false := by
      rw [xx l i hil, List.set_append_right _ _ (by omega), hs1, Nat.sub_self, List.replicate_succ, List.set_cons_zero]
      simp
    have hrd : fW false ((fF (l.take i) ++ List.replicate (d + 1) false).set i (l[i] != 0)) (i : Int) = (l[i] != 0) := by
      rw [hset, xx l i hil]
      simp [fW, List.getD_eq_getElem?_getD, hs1]
    have ih := Dt l hl hx d (i + 1) (by omega)
    rw [hrd, hset, Ft l i hil] at *
    simp only [show (i : Int) + 1 = ((i + 1 : Nat) : Int) by omega]
    by_cases hz : l[i] = 0
    · simp only [hz, bne_self_eq_false, Bool.false_eq_true, if_false, if_true] at ih ⊢
      exact ih
    · simp only [if_neg hz, bne_iff_ne.mpr hz, if_true] at ih ⊢
      exact ih
theorem Cd (l : List Int) (hl : l.length ≤ 1000000) (hx : ∀ x ∈ l, Cn x) : Ev (fun k => bg.f k l) (pG l) := by
 unfold bg.f; simp only [if_pos (show (0 : Int) ≤ (l.length : Int) by omega), if_pos (show l.length ≤ 281474976710656 by omega), Option.bind_some]; have := Dt l hl hx l.length 0 (by omega); exact this
end Go.Proofs.YtfgnjndfnijjoaaGreat.OpC
end
section
namespace Go.Proofs.YtfgnjndfnijjoaaGreat.OpD
set_option linter.unusedSimpArgs false
set_option linter.unusedVariables false
open Go.RowKit Go.Proofs.YtfgnjndfnijjoaaGreat.Print Go.Proofs.YtfgnjndfnijjoaaGreatW.PrintWords Go.Proofs.YtfgnjndfnijjoaaGreatW.PrintLast Go.Proofs.YtfgnjndfnijjoaaGreatW.PrintMore Go.Proofs.YtfgnjndfnijjoaaGreat.LibA Go.Proofs.YtfgnjndfnijjoaaGreat.LibB Go.Proofs.YtfgnjndfnijjoaaGreat.LibC Go.Proofs.YtfgnjndfnijjoaaGreat.LibD Go.Proofs.YtfgnjndfnijjoaaGreat.LibE Go.Proofs.YtfgnjndfnijjoaaGreat.LibG Go.Proofs.YtfgnjndfnijjoaaGreat.RowsA Go.Proofs.YtfgnjndfnijjoaaGreat.RowsC Go.Proofs.YtfgnjndfnijjoaaGreat.RowsD Go.Proofs.YtfgnjndfnijjoaaGreat.OpA Go.Proofs.YtfgnjndfnijjoaaGreat.OpB Go.Proofs.YtfgnjndfnijjoaaGreat.OpC
open Go.Proofs.YtfgnjndfnijjoaaGreat.LibW (put put_size no_app app_no put_both)
def mrg : List Bool → List Int → List Int
  | [], _ => []
  | false :: bs, rs => 0 :: mrg bs rs
  | true :: bs, r :: rs => r :: mrg bs rs
  | true :: bs, [] => []
theorem pH (bs : List Bool) : LibI.cnt (true :: bs) = LibI.cnt bs + 1 := by rw [LibI.vK]; simp; omega
theorem ud (bs : List Bool) : LibI.cnt (false :: bs) = LibI.cnt bs := by rw [LibI.vK]; simp
theorem Lm (x : Int) : j8.f x 0 = some (x == 0) := rfl
theorem vN : ∀ (bs : List Bool) (rs l : List Int), (rs.length : Int) = LibI.cnt bs → iO.g bs rs l = some (if (0 : Int) ∈ rs then ([], 5) else (l ++ mrg bs rs, 0))
  | [], rs, l, h => by
    have : rs = [] := List.length_eq_zero_iff.mp (by have : LibI.cnt [] = 0 := rfl; omega)
    subst this
    simp [iO.g, mrg]
  | false :: bs, rs, l, h => by
    rw [ud] at h
    unfold iO.g
    rw [vN bs rs (l ++ [0]) h]
    simp [mrg]
  | true :: bs, [], l, h => by
    rw [pH] at h
    have := (LibI.rS bs).1
    simp at h
    omega
  | true :: bs, x :: rs, l, h => by
    rw [pH, List.length_cons] at h
    unfold iO.g
    simp only [Lm, Option.bind_some]
    by_cases hx : x = 0
    · subst hx
      simp
    · rw [if_neg (by simpa using hx), vN bs rs (l ++ [x]) (by omega)]
      by_cases hm : (0 : Int) ∈ rs
      · rw [if_pos hm, if_pos (List.mem_cons_of_mem _ hm)]
      · rw [if_neg hm, if_neg (by simp only [List.mem_cons, not_or]; exact ⟨fun h => hx h.symm, hm⟩)]
        simp [mrg]
theorem ue (bs : List Bool) (rs : List Int) (hb : bs.length ≤ 1000000) (hrl : rs.length ≤ 1000000) : ∀ (d i j : Nat) (out : List Int), i + d = bs.length → (j : Int) + LibI.cnt (bs.drop i) = rs.length → out.length = i → Ev (fun k => cM.l1 k bs rs out (j : Int) (i : Int)) (out ++ mrg (bs.drop i) (rs.drop j), 0)
  | 0, i, j, out, hi, hj, ho => by
    refine Ev.succ ?_
    simp only [cM.l1, if_neg (show ¬ (i : Int) < (bs.length : Int) by omega)]
    rw [List.drop_eq_nil_of_le (by omega)]
    simp only [mrg, List.append_nil]
    exact Ev.now _
  | d + 1, i, j, out, hi, hj, ho => by
    refine Ev.succ ?_
    have hil : i < bs.length := by omega
    have hrd : fW false bs (i : Int) = bs[i] := by simp [fW, List.getD_eq_getElem?_getD, hil]
    rw [List.drop_eq_getElem_cons hil] at hj ⊢
    simp only [cM.l1, if_pos (show (i : Int) < (bs.length : Int) by omega), if_pos (show (0 : Int) ≤ (i : Int) by omega), hrd, if_pos (show out.length < 17592186044416 by omega), w64 (show -9223372036854775808 ≤ (i : Int) + 1 by omega) (by omega), if_pos (show (0 : Int) ≤ (j : Int) by omega)]
    simp only [show (i : Int) + 1 = ((i + 1 : Nat) : Int) by omega]
    have hc := LibI.rS (bs.drop (i + 1))
    rw [List.length_drop] at hc
    cases hbi : bs[i] with
    | false =>
      rw [hbi, ud] at hj
      have ih := ue bs rs hb hrl d (i + 1) j (out ++ [0]) (by omega) hj (by simp [ho])
      simp only [Bool.false_eq_true, if_false, mrg]
      simpa using ih
    | true =>
      rw [hbi, pH] at hj
      have hjl : j < rs.length := by omega
      have ih := ue bs rs hb hrl d (i + 1) (j + 1) (out ++ [rs[j]]) (by omega) (by omega) (by simp [ho])
      rw [List.drop_eq_getElem_cons hjl]
      simp only [if_true, if_pos (show (j : Int) < (rs.length : Int) by omega), xh rs j hjl, w64 (show -9223372036854775808 ≤ (j : Int) + 1 by omega) (by omega), mrg]
      simp only [show (j : Int) + 1 = ((j + 1 : Nat) : Int) by omega]
      simpa using ih
theorem zw (bs : List Bool) (rs : List Int) (hb : bs.length ≤ 1000000) (hr : (rs.length : Int) = LibI.cnt bs) : ∀ (d i : Nat), i + d = rs.length → Ev (fun k => cM.l0 k bs rs (i : Int)) (if (0 : Int) ∈ rs.drop i then ([], 5) else (mrg bs rs, 0))
  | 0, i, hi => by
    refine Ev.succ ?_
    simp only [cM.l0, if_neg (show ¬ (i : Int) < (rs.length : Int) by omega)]
    rw [List.drop_eq_nil_of_le (by omega)]
    have hcl := LibI.rS bs
    have := ue bs rs hb (by omega) bs.length 0 0 [] (by omega) (by simp only [List.drop_zero]; omega) rfl
    simpa using this
  | d + 1, i, hi => by
    refine Ev.succ ?_
    have hil : i < rs.length := by omega
    have hcl := LibI.rS bs
    rw [List.drop_eq_getElem_cons hil]
    simp only [cM.l0, if_pos (show (i : Int) < (rs.length : Int) by omega), if_pos (show (0 : Int) ≤ (i : Int) by omega), xh rs i hil, (rQ _).2, Option.bind_some, w64 (show -9223372036854775808 ≤ (i : Int) + 1 by omega) (by omega)]
    simp only [show (i : Int) + 1 = ((i + 1 : Nat) : Int) by omega]
    by_cases hz : rs[i] = 0
    · simp only [if_pos hz, hz, List.mem_cons, true_or, if_true]
      exact Ev.now _
    · have ih := zw bs rs hb hr d (i + 1) (by omega)
      simp only [if_neg hz]
      by_cases hm : (0 : Int) ∈ rs.drop (i + 1)
      · rw [if_pos hm] at ih
        rw [if_pos (List.mem_cons_of_mem _ hm)]
        exact ih
      · rw [if_neg hm] at ih
        rw [if_neg (by simp only [List.mem_cons, not_or]; exact ⟨fun h => hz h.symm, hm⟩)]
        exact ih
noncomputable def kS (s : ByteArray) (n : Int) : List Int × Int :=
  if (iD s).2.2 ≠ 0 then ([], (iD s).2.2) else if (LibJ.fE (iD s).1 n).2 ≠ 0 then ([], (LibJ.fE (iD s).1 n).2) else
    if (kB (iD s).2.1 (LibI.cnt (LibJ.fE (iD s).1 n).1)).2 ≠ 0 then ([], (kB (iD s).2.1 (LibI.cnt (LibJ.fE (iD s).1 n).1)).2) else
      if (0 : Int) ∈ (kB (iD s).2.1 (LibI.cnt (LibJ.fE (iD s).1 n).1)).1 then ([], 5) else (mrg (LibJ.fE (iD s).1 n).1 (kB (iD s).2.1 (LibI.cnt (LibJ.fE (iD s).1 n).1)).1, 0)
theorem CO (s : ByteArray) (hs : s.size ≤ 140737488351232) (n : Int) : Ev (fun k => ck.f k s n) (LibJ.fE s n) ∧ Ev (fun k => eX.f k s n) (LibJ.fE s n) := ⟨Ev.all ((s.size + 1) * 1000004 + 5000 * 1000004 + 5000) fun k hk => (LibJ.Ct s hs n 1000004 (Nat.le_refl _) k hk).1, Ev.all ((s.size + 1) * 1000004 + 5000 * 1000004 + 5000) fun k hk => (LibJ.Ct s hs n 1000004 (Nat.le_refl _) k hk).2⟩
theorem Jb (l : List Bool) (hl : l.length ≤ 1000000) : Ev (fun k => cD.f k l) (LibI.cnt l) ∧ Ev (fun k => fK.f k l) (LibI.cnt l) := ⟨Ev.all (l.length + 1) fun k hk => (LibI.xu l (by omega) k hk).1, Ev.all (l.length + 1) fun k hk => (LibI.xu l (by omega) k hk).2⟩
theorem yY (s : ByteArray) (hs : s.size ≤ 140737488351232) (n : Int) : Ev (fun k => bI.f k s n) (kS s n) ∧ Ev (fun k => cM.f k s n) (kS s n) := by
 obtain ⟨hc1, hc2⟩ := Nz s hs; have hcw := Ds s hs; unfold bI.f iO.f cM.f kS; generalize hc : iD s = c at hc1 hc2 hcw ⊢; obtain ⟨a, b, e⟩ := c; simp only at hcw ⊢
 by_cases he : e = 0
 rotate_left
 ·
  rw [if_pos he]
  constructor
  ·
   simp only [hc1, Option.bind_some, ne_eq, he, not_false_eq_true, if_true]; exact Ev.now _
  ·
   refine Ev.bind hc2 ?_; simp only [if_neg he]; exact Ev.now _
 subst he; have hd := CO a (by omega) n; have hsh := LibJ.Gy a (by omega) n; rw [if_neg (by simp)]; generalize LibJ.fE a n = F at hd hsh ⊢; obtain ⟨fs, e⟩ := F; simp only at hsh ⊢
 by_cases he : e = 0
 rotate_left
 ·
  rw [if_pos he]
  constructor
  ·
   simp only [hc1, Option.bind_some, ne_eq, not_true_eq_false, if_false]; refine Ev.bind (a := ([], e)) (Ev.bind hd.1 ?_) ?_
   · simp only [ne_eq, he, not_false_eq_true, if_true]; exact Ev.now _
   · simp only [ne_eq, he, not_false_eq_true, if_true]; exact Ev.now _
  ·
   refine Ev.bind hc2 ?_; simp only [if_true]; refine Ev.bind hd.2 ?_; simp only [if_neg he]; exact Ev.now _
 subst he; have hcn := Jb fs (by omega); have hcl := LibI.rS fs; have hr1 := Nu b (by omega) (LibI.cnt fs) (by omega); have hr2 := Gq b (by omega) (LibI.cnt fs) (by omega); have hrw := Ci b (by omega) (LibI.cnt fs); rw [if_neg (by simp)]; generalize kB b (LibI.cnt fs) = R at hr1 hr2 hrw ⊢; obtain ⟨rs, e⟩ := R; simp only at hrw ⊢
 by_cases he : e = 0
 rotate_left
 ·
  rw [if_pos he]
  constructor
  ·
   simp only [hc1, Option.bind_some, ne_eq, not_true_eq_false, if_false]; refine Ev.bind (a := ([], e)) (Ev.bind hd.1 ?_) ?_
   ·
    simp only [ne_eq, not_true_eq_false, if_false]; refine Ev.bind hcn.1 ?_; simp only [hr1, Option.bind_some, ne_eq, he, not_false_eq_true, if_true]; exact Ev.now _
   · simp only [ne_eq, he, not_false_eq_true, if_true]; exact Ev.now _
  ·
   refine Ev.bind hc2 ?_; simp only [if_true]; refine Ev.bind hd.2 ?_; simp only [if_true]; refine Ev.bind hcn.2 ?_; refine Ev.bind hr2 ?_; simp only [if_neg he]; exact Ev.now _
 subst he; rw [if_neg (by simp)]; have hlen := (hrw.2 rfl).1
 constructor
 ·
  simp only [hc1, Option.bind_some, ne_eq, not_true_eq_false, if_false]; refine Ev.bind (a := if (0 : Int) ∈ rs then ([], 5) else (mrg fs rs, 0)) (Ev.bind hd.1 ?_) ?_
  ·
   simp only [ne_eq, not_true_eq_false, if_false]; refine Ev.bind hcn.1 ?_; simp only [hr1, Option.bind_some, ne_eq, not_true_eq_false, if_false, if_pos (show fs.length ≤ 100000 by omega), vN fs rs [] hlen, List.nil_append]; exact Ev.now _
  ·
   by_cases hm : (0 : Int) ∈ rs
   · simp only [if_pos hm, ne_eq, show ¬ ((5 : Int) = 0) by decide, not_false_eq_true, if_true]; exact Ev.now _
   · simp only [if_neg hm, ne_eq, not_true_eq_false, if_false]; exact Ev.now _
 ·
  refine Ev.bind hc2 ?_; simp only [if_true]; refine Ev.bind hd.2 ?_; simp only [if_true]; refine Ev.bind hcn.2 ?_; refine Ev.bind hr2 ?_; simp only [if_true]; exact zw fs rs (by omega) hlen rs.length 0 (by omega)
theorem GC (l : List Int) : (0 : Int) ∉ gh l := fun h => by simpa [gh] using (List.mem_filter.mp h).2
theorem yZ : ∀ l : List Int, mrg (fF l) (gh l) = l
  | [] => rfl
  | x :: l => by
    by_cases hx : x = 0
    · subst hx
      have h1 : fF (0 :: l) = false :: fF l := rfl
      have h2 : gh (0 :: l) = gh l := rfl
      rw [h1, h2, mrg, yZ l]
    · have h1 : fF (x :: l) = true :: fF l := by simp [fF, hx]
      have h2 : gh (x :: l) = x :: gh l := by simp [gh, hx]
      rw [h1, h2, mrg, yZ l]
theorem za : ∀ (bs : List Bool) (rs : List Int), (rs.length : Int) = LibI.cnt bs → (0 : Int) ∉ rs → fF (mrg bs rs) = bs ∧ gh (mrg bs rs) = rs ∧ (mrg bs rs).length = bs.length
  | [], rs, h, hz => by
    have : rs = [] := List.length_eq_zero_iff.mp (by have : LibI.cnt [] = 0 := rfl; omega)
    subst this
    exact ⟨rfl, rfl, rfl⟩
  | false :: bs, rs, h, hz => by
    rw [ud] at h
    obtain ⟨h1, h2, h3⟩ := za bs rs h hz
    refine ⟨?_, ?_, ?_⟩
    · rw [mrg]; show false :: fF (mrg bs rs) = _; rw [h1]
    · rw [mrg]; show gh (mrg bs rs) = _; rw [h2]
    · rw [mrg, List.length_cons, h3, List.length_cons]
  | true :: bs, [], h, hz => by
    rw [pH] at h
    have := (LibI.rS bs).1
    simp at h
    omega
  | true :: bs, x :: rs, h, hz => by
    rw [pH, List.length_cons] at h
    have hx : x ≠ 0 := fun h' => hz (by rw [h']; exact List.mem_cons_self)
    obtain ⟨h1, h2, h3⟩ := za bs rs (by omega) (fun h' => hz (List.mem_cons_of_mem _ h'))
    refine ⟨?_, ?_, ?_⟩
    · rw [mrg, show fF (x :: mrg bs rs) = true :: fF (mrg bs rs) by simp [fF, hx], h1]
    · rw [mrg, show gh (x :: mrg bs rs) = x :: gh (mrg bs rs) by simp [gh, hx], h2]
    · rw [mrg, List.length_cons, h3, List.length_cons]
theorem zx (l : List Int) : (fF l).length = l.length := by simp [fF]
theorem BV (l : List Int) (hl : l.length ≤ 4096) (hx : ∀ x ∈ l, Cn x) : kS (pG l) l.length = (l, 0) ∧ ∀ n : Int, n ≠ l.length → (kS (pG l) n).2 ≠ 0 := by
 have h1 := uc (fF l); have hsl := zx l; have hc : iD (pG l) = (LibI.gJ (LibH.lens (fF l)), chX (gh l) 0, 0) := Ja _ _ (by omega); obtain ⟨h2, h3⟩ := LibJ.Di (fF l) (by omega); rw [hsl] at h2 h3; have h4 := I6 (gh l) (vM hx); unfold kS; rw [hc]; simp only [ne_eq, not_true_eq_false, if_false]
 constructor
 ·
  rw [h2]; simp only [not_true_eq_false, if_false, GA]; rw [h4]; simp only [not_true_eq_false, if_false, if_neg (GC l), yZ]
 ·
  intro n hn; rw [if_pos (h3 n hn)]; exact h3 n hn
theorem Jc (s : ByteArray) (hs : s.size ≤ 140737488351232) (n : Int) : ((kS s n).2 ≠ 0 → (kS s n).1 = []) ∧ ((kS s n).2 = 0 → ((kS s n).1.length : Int) = n ∧ n ≤ 4096 ∧ pG (kS s n).1 = s ∧ ∀ x ∈ (kS s n).1, Cn x) := by
 obtain ⟨hw1, hw2, hw3, hw4⟩ := Ds s hs; unfold kS; generalize hc : iD s = c at hw1 hw2 hw3 hw4 ⊢; obtain ⟨a, b, e⟩ := c; simp only at hw1 hw2 hw3 hw4 ⊢
 by_cases he : e = 0
 rotate_left
 · rw [if_pos he]; exact ⟨fun _ => rfl, fun h => absurd h he⟩
 subst he; rw [if_neg (by simp)]; obtain ⟨hd1, hd2⟩ := LibJ.yS a (by omega) n; generalize LibJ.fE a n = F at hd1 hd2 ⊢; obtain ⟨fs, e⟩ := F; simp only at hd1 hd2 ⊢
 by_cases he : e = 0
 rotate_left
 · rw [if_pos he]; exact ⟨fun _ => rfl, fun h => absurd h he⟩
 subst he; rw [if_neg (by simp)]; obtain ⟨hr1, hr2⟩ := Ci b (by omega) (LibI.cnt fs); generalize kB b (LibI.cnt fs) = R at hr1 hr2 ⊢; obtain ⟨rs, e⟩ := R; simp only at hr1 hr2 ⊢
 by_cases he : e = 0
 rotate_left
 · rw [if_pos he]; exact ⟨fun _ => rfl, fun h => absurd h he⟩
 subst he; rw [if_neg (by simp)]
 by_cases hz : (0 : Int) ∈ rs
 · rw [if_pos hz]; exact ⟨fun _ => rfl, fun h => absurd h (by decide)⟩
 rw [if_neg hz]; obtain ⟨q1, q2, q3⟩ := hd1 rfl; obtain ⟨p1, p2, p3⟩ := hr2 rfl; obtain ⟨m1, m2, m3⟩ := za fs rs p1 hz; refine ⟨fun h => absurd rfl h, fun _ => ⟨by rw [m3]; exact q1, q2, ?_, ?_⟩⟩
 ·
  unfold pG; simp only; rw [m1, m2, q3, ← p2]; exact (hw2 rfl).symm
 ·
  intro x hx
  by_cases h0 : x = 0
  · subst h0; exact ⟨by decide, by decide, by decide⟩
  ·
   refine p3 x ?_; rw [← m2]; exact List.mem_filter.mpr ⟨hx, by simpa using h0⟩
end Go.Proofs.YtfgnjndfnijjoaaGreat.OpD
end
section
namespace Go.Proofs.YtfgnjndfnijjoaaGreat.OpS
set_option linter.unusedSimpArgs false
set_option linter.unusedVariables false
open Go.RowKit Go.Proofs.YtfgnjndfnijjoaaGreat.Print Go.Proofs.YtfgnjndfnijjoaaGreatW.PrintWords Go.Proofs.YtfgnjndfnijjoaaGreatW.PrintLast Go.Proofs.YtfgnjndfnijjoaaGreatW.PrintMore Go.Proofs.YtfgnjndfnijjoaaGreat.LibA Go.Proofs.YtfgnjndfnijjoaaGreat.LibB Go.Proofs.YtfgnjndfnijjoaaGreat.RowsA Go.Proofs.YtfgnjndfnijjoaaGreat.OpB
theorem GD (l : List Int) (hl : l.length ≤ 1000000) : ∀ (d i : Nat), i + d = l.length → Ev (fun k => aK.l0 k l l (i : Int)) true
  | 0, i, hi => by
    refine Ev.succ ?_
    simp only [aK.l0, if_neg (show ¬ (i : Int) < (l.length : Int) by omega)]
    exact Ev.now _
  | d + 1, i, hi => by
    refine Ev.succ ?_
    have hs : ∀ x, fX.f x x = some true := fun x => by simp [fX.f, (rQ _).2]
    simp only [aK.l0, if_pos (show (i : Int) < (l.length : Int) by omega), if_pos (show (0 : Int) ≤ (i : Int) by omega), hs, Option.bind_some, if_true, w64 (show -9223372036854775808 ≤ (i : Int) + 1 by omega) (by omega)]
    exact GD l hl d (i + 1) (by omega)
theorem P2 (l : List Int) (hl : l.length ≤ 1000000) : Ev (fun k => aK.f k l l) true := by
 unfold aK.f; simp only [if_true]; exact GD l hl l.length 0 (by omega)
end Go.Proofs.YtfgnjndfnijjoaaGreat.OpS
end
section
namespace Go.Proofs.YtfgnjndfnijjoaaGreat.OpL
set_option linter.unusedSimpArgs false
set_option linter.unusedVariables false
open Go.RowKit Go.Proofs.YtfgnjndfnijjoaaGreat.Print Go.Proofs.YtfgnjndfnijjoaaGreatW.PrintWords Go.Proofs.YtfgnjndfnijjoaaGreatW.PrintLast Go.Proofs.YtfgnjndfnijjoaaGreatW.PrintMore Go.Proofs.YtfgnjndfnijjoaaGreat.LibA Go.Proofs.YtfgnjndfnijjoaaGreat.LibB Go.Proofs.YtfgnjndfnijjoaaGreat.RowsA
theorem NC : cj.f 60 = some true := by decide +kernel
theorem uE : Ev (fun k => cj.f k) true := Ev.of cj.mono NC
end Go.Proofs.YtfgnjndfnijjoaaGreat.OpL
end
section
namespace Go.Proofs.YtfgnjndfnijjoaaGreat.Pure
set_option linter.unusedSimpArgs false
set_option linter.unusedVariables false
open Go.RowKit Go.Proofs.YtfgnjndfnijjoaaGreat.Print Go.Proofs.YtfgnjndfnijjoaaGreatW.PrintWords Go.Proofs.YtfgnjndfnijjoaaGreatW.PrintLast Go.Proofs.YtfgnjndfnijjoaaGreatW.PrintMore Go.Proofs.YtfgnjndfnijjoaaGreat.LibA Go.Proofs.YtfgnjndfnijjoaaGreat.LibB Go.Proofs.YtfgnjndfnijjoaaGreat.RowsA Go.Proofs.YtfgnjndfnijjoaaGreat.OpB Go.Proofs.YtfgnjndfnijjoaaGreat.OpC Go.Proofs.YtfgnjndfnijjoaaGreat.OpD Go.Proofs.YtfgnjndfnijjoaaGreat.OpS
theorem Jd (s : ByteArray) (hs : s.size ≤ 500) (n : Int) : Ev (fun k => aQ.j2 k s n) true := by
 refine Ev.succ ?_; simp only [aQ.j2]; obtain ⟨w1, w2⟩ := Jc s (by omega) n; refine Ev.bind (yY s (by omega) n).1 ?_
 by_cases he : (kS s n).2 = 0
 ·
  obtain ⟨h1, h2, h3, h4⟩ := w2 he; simp only [if_pos he, if_pos h1]; refine Ev.bind (Cd _ (by omega) h4) ?_; simp only [h3, if_true]; exact Ev.bind OpL.uE (Ev.now _)
 ·
  simp only [if_neg he, w1 he, List.length_nil, Int.natCast_zero, if_true]; exact Ev.bind OpL.uE (Ev.now _)
theorem OplogRanks : ∀ (l0 : List Int) (a1 : ByteArray) (a2 : Int), l0.length ≤ maxLen → (∀ x ∈ l0, (∃ b, FB b x)) → a1.size ≤ 140737488351232 → (Lit.int .i64 a2).wf = true → ∃ k, aQ.f k l0 a1 a2 = some true := by
 intro l s n hl hq hs hn; refine Ev.rounds (g := fun k => aQ.f k l s n) ?_; unfold aQ.f
 have hlive : Ev (fun k => aQ.j0 k l s n true) true := by
  refine Ev.succ ?_; simp only [aQ.j0, if_true]; exact Ev.bind OpL.uE (Ev.now _)
 by_cases hbig : (l.length : Int) > 100
 · simp only [if_pos hbig]; exact hlive
 simp only [if_neg hbig]
 by_cases hsb : (s.size : Int) > 500
 · rw [decide_eq_true hsb]; exact hlive
 rw [decide_eq_false hsb]; have hx : ∀ x ∈ l, Cn x := fun x hx => by obtain ⟨b, hb⟩ := hq x hx; exact Cn.of hb
 obtain ⟨t1, t2⟩ := BV l (by omega) hx
 have hz : (pG l).size ≤ 140737488351232 := by
  have h1 := uc (fF l); have h2 := zx l; have h3 := xw (LibI.gJ (LibH.lens (fF l))); have h4 := sO (gh l) 0; have h5 := tZ l; unfold pG; rw [ByteArray.size_append]
  omega
 have hj2 := Jd s (by omega) n; refine Ev.succ ?_; simp only [aQ.j0, Bool.false_eq_true, if_false]; refine Ev.bind (Cd l (by omega) hx) ?_; refine Ev.bind (yY _ hz _).1 ?_; simp only [t1, if_true]; refine Ev.bind (P2 l (by omega)) ?_; refine Ev.succ ?_; simp only [aQ.j1, Bool.not_true, Bool.false_eq_true, if_false]
 by_cases hnl : n = (l.length : Int)
 · simp only [if_pos hnl]; exact hnl ▸ hj2
 ·
  simp only [if_neg hnl]; refine Ev.bind (yY _ hz n).1 ?_; simp only [if_neg (t2 n hnl)]; exact hj2
end Go.Proofs.YtfgnjndfnijjoaaGreat.Pure
end
